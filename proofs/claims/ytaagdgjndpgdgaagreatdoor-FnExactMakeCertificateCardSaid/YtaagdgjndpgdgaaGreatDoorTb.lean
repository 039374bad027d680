/-
 The pure machine's table of this program's types, printed by gentab.py, and that it is so. No conditions.
-/
import Derived.Test.YtaagdgjndpgdgaaGreatDoorKe
import Derived.Test.YtaagdgjndpgdgaaGreatDoorProg
open Go.RowKit
set_option linter.unusedVariables false
set_option linter.unusedSimpArgs false
namespace Go.Proofs.YtaagdgjndpgdgaaGreatDoor
set_option maxRecDepth 100000
theorem Ad5:Ma Tryz.prog 2 (.sc (.int .i64 0)):=UH .i64 (by kernel_rfl) (by kernel_rfl)
theorem Ad6:Ma Tryz.prog 3 (.sc (.int .i64 0)):=UH .i64 (by kernel_rfl) (by kernel_rfl)
theorem Ad7:Ma Tryz.prog 4 (.sc (.bool false)):=nQ (by kernel_rfl) (by kernel_rfl)
theorem Ad8:Ma Tryz.prog 5 (.sc (.int .u8 0)):=UH .u8 (by kernel_rfl) (by kernel_rfl)
theorem Ad9:Ma Tryz.prog 9 (.sc (.str [])):=sr (by kernel_rfl) (by kernel_rfl)
theorem Abj:Ma Tryz.prog 12 (.sc (.int .u64 0)):=UH .u64 (by kernel_rfl) (by kernel_rfl)
theorem Abk:Ma Tryz.prog 21 (.sc (.int .i32 0)):=UH .i32 (by kernel_rfl) (by kernel_rfl)
theorem Abl:Ma Tryz.prog 22 (.sl 101 2 40 [.str [],.own 3 0 []]):=QH (zv:=.agg #[.string ⟨#[]⟩,.slice none 0 0]) (by kernel_rfl) (by kernel_rfl) (by kernel_rfl) (Cc (To) (Cc (ET 3) (E8))) rfl (by decide) (by decide) (by decide)
theorem Abm:Ma Tryz.prog 23 (.sl 3 1 8 [.int .i64 0]):=QH (zv:=.int .i64 0) (by kernel_rfl) (by kernel_rfl) (by kernel_rfl) (Cc (Kn .i64) (E8)) rfl (by decide) (by decide) (by decide)
theorem Abn:Ma Tryz.prog 25 (.st 3 [.int .i64 0,.own 101 0 [],.own 3 0 []] [(0,1),(1,1),(2,1)]):=K6 (us:=[.int .i64 0,.slice none 0 0,.slice none 0 0]) (by kernel_rfl) (Cc (Kn .i64) (Cc (ET 101) (Cc (ET 3) (E8)))) Tryz.underlying25 (by kernel_rfl) (by decide) (by kernel_rfl)
theorem Abp:Ma Tryz.prog 28 (.st 1 [.own 3 0 []] [(0,1)]):=K6 (us:=[.slice none 0 0]) (by kernel_rfl) (Cc (ET 3) (E8)) Tryz.underlying28 (by kernel_rfl) (by decide) (by kernel_rfl)
theorem Abq:Ma Tryz.prog 29 (.sl 23 1 24 [.own 3 0 []]):=QH (zv:=.slice none 0 0) (by kernel_rfl) (by kernel_rfl) (by kernel_rfl) (Cc (ET 3) (E8)) rfl (by decide) (by decide) (by decide)
theorem Abr:Ma Tryz.prog 31 (.st 2 [.own 23 0 [],.own 3 0 []] [(0,1),(1,1)]):=K6 (us:=[.slice none 0 0,.slice none 0 0]) (by kernel_rfl) (Cc (ET 23) (Cc (ET 3) (E8))) Tryz.underlying31 (by kernel_rfl) (by decide) (by kernel_rfl)
theorem Abs:Ma Tryz.prog 33 (.st 5 [.int .i64 0,.own 3 0 [],.own 3 0 [],.own 23 0 [],.own 3 0 []] [(0,1),(1,1),(2,1),(3,2)]):=K6 (us:=[.int .i64 0,.slice none 0 0,.slice none 0 0,.slice none 0 0,.slice none 0 0]) (by kernel_rfl) (Cc (Kn .i64) (Cc (ET 3) (Cc (ET 3) (Cc (ET 23) (Cc (ET 3) (E8)))))) Tryz.underlying33 (by kernel_rfl) (by decide) (by kernel_rfl)
theorem Abt:Ma Tryz.prog 36 (.sl 104 2 40 [.str [],.own 3 0 []]):=QH (zv:=.agg #[.string ⟨#[]⟩,.slice none 0 0]) (by kernel_rfl) (by kernel_rfl) (by kernel_rfl) (Cc (To) (Cc (ET 3) (E8))) rfl (by decide) (by decide) (by decide)
theorem Abu:Ma Tryz.prog 38 (.st 3 [.int .i64 0,.own 104 0 [],.own 3 0 []] [(0,1),(1,1),(2,1)]):=K6 (us:=[.int .i64 0,.slice none 0 0,.slice none 0 0]) (by kernel_rfl) (Cc (Kn .i64) (Cc (ET 104) (Cc (ET 3) (E8)))) Tryz.underlying38 (by kernel_rfl) (by decide) (by kernel_rfl)
theorem Abv:Ma Tryz.prog 48 (.sl 139 3 48 [.str [],.int .i64 0,.own 23 0 []]):=QH (zv:=.agg #[.string ⟨#[]⟩,.int .i64 0,.slice none 0 0]) (by kernel_rfl) (by kernel_rfl) (by kernel_rfl) (Cc (To) (Cc (Kn .i64) (Cc (ET 23) (E8)))) rfl (by decide) (by decide) (by decide)
theorem Abw:Ma Tryz.prog 50 (.st 1 [.own 139 0 []] [(0,1)]):=K6 (us:=[.slice none 0 0]) (by kernel_rfl) (Cc (ET 139) (E8)) Tryz.underlying50 (by kernel_rfl) (by decide) (by kernel_rfl)
theorem Abx:Ma Tryz.prog 52 (.sl 71 2 16 [.int .i64 0,.int .i64 0]):=QH (zv:=.agg #[.int .i64 0,.int .i64 0]) (by kernel_rfl) (by kernel_rfl) (by kernel_rfl) (Cc (Kn .i64) (Cc (Kn .i64) (E8))) rfl (by decide) (by decide) (by decide)
theorem Aby:Ma Tryz.prog 54 (.st 5 [.own 3 0 [],.own 71 0 [],.own 3 0 [],.int .i64 0,.int .i64 0] [(0,1),(1,1),(2,1),(3,1),(4,1)]):=K6 (us:=[.slice none 0 0,.slice none 0 0,.slice none 0 0,.int .i64 0,.int .i64 0]) (by kernel_rfl) (Cc (ET 3) (Cc (ET 71) (Cc (ET 3) (Cc (Kn .i64) (Cc (Kn .i64) (E8)))))) Tryz.underlying54 (by kernel_rfl) (by decide) (by kernel_rfl)
theorem Abz:Ma Tryz.prog 57 (.sl 154 3 48 [.str [],.int .i64 0,.own 23 0 []]):=QH (zv:=.agg #[.string ⟨#[]⟩,.int .i64 0,.slice none 0 0]) (by kernel_rfl) (by kernel_rfl) (by kernel_rfl) (Cc (To) (Cc (Kn .i64) (Cc (ET 23) (E8)))) rfl (by decide) (by decide) (by decide)
theorem AbA:Ma Tryz.prog 59 (.st 1 [.own 154 0 []] [(0,1)]):=K6 (us:=[.slice none 0 0]) (by kernel_rfl) (Cc (ET 154) (E8)) Tryz.underlying59 (by kernel_rfl) (by decide) (by kernel_rfl)
theorem AbB:Ma Tryz.prog 71 (.st 2 [.int .i64 0,.int .i64 0] [(0,1),(1,1)]):=K6 (us:=[.int .i64 0,.int .i64 0]) (by kernel_rfl) (Cc (Kn .i64) (Cc (Kn .i64) (E8))) Tryz.underlying71 (by kernel_rfl) (by decide) (by kernel_rfl)
theorem AbC:Ma Tryz.prog 87 (.st 2 [.int .i64 0,.own 23 0 []] [(0,1),(1,1)]):=K6 (us:=[.int .i64 0,.slice none 0 0]) (by kernel_rfl) (Cc (Kn .i64) (Cc (ET 23) (E8))) Tryz.underlying87 (by kernel_rfl) (by decide) (by kernel_rfl)
theorem ws:Ma Tryz.prog 101 (.st 2 [.str [],.own 3 0 []] [(0,1),(1,1)]):=K6 (us:=[.string ⟨#[]⟩,.slice none 0 0]) (by kernel_rfl) (Cc (To) (Cc (ET 3) (E8))) Tryz.underlying101 (by kernel_rfl) (by decide) (by kernel_rfl)
theorem wt:Ma Tryz.prog 104 (.st 2 [.str [],.own 3 0 []] [(0,1),(1,1)]):=K6 (us:=[.string ⟨#[]⟩,.slice none 0 0]) (by kernel_rfl) (Cc (To) (Cc (ET 3) (E8))) Tryz.underlying104 (by kernel_rfl) (by decide) (by kernel_rfl)
theorem wu:Ma Tryz.prog 113 (.sl 52 1 24 [.own 71 0 []]):=QH (zv:=.slice none 0 0) (by kernel_rfl) (by kernel_rfl) (by kernel_rfl) (Cc (ET 71) (E8)) rfl (by decide) (by decide) (by decide)
theorem wv:Ma Tryz.prog 115 (.st 3 [.own 52 0 [],.own 71 0 [],.own 71 0 []] [(0,1),(1,1),(2,1)]):=K6 (us:=[.slice none 0 0,.slice none 0 0,.slice none 0 0]) (by kernel_rfl) (Cc (ET 52) (Cc (ET 71) (Cc (ET 71) (E8)))) Tryz.underlying115 (by kernel_rfl) (by decide) (by kernel_rfl)
theorem ww:Ma Tryz.prog 124 (.sl 4 1 1 [.bool false]):=QH (zv:=.bool false) (by kernel_rfl) (by kernel_rfl) (by kernel_rfl) (Cc (my) (E8)) rfl (by decide) (by decide) (by decide)
theorem wx:Ma Tryz.prog 137 (.st 2 [.int .i64 0,.own 23 0 []] [(0,1),(1,1)]):=K6 (us:=[.int .i64 0,.slice none 0 0]) (by kernel_rfl) (Cc (Kn .i64) (Cc (ET 23) (E8))) Tryz.underlying137 (by kernel_rfl) (by decide) (by kernel_rfl)
theorem wy:Ma Tryz.prog 139 (.st 3 [.str [],.int .i64 0,.own 23 0 []] [(0,1),(1,2)]):=K6 (us:=[.string ⟨#[]⟩,.int .i64 0,.slice none 0 0]) (by kernel_rfl) (Cc (To) (Cc (Kn .i64) (Cc (ET 23) (E8)))) Tryz.underlying139 (by kernel_rfl) (by decide) (by kernel_rfl)
theorem wz:Ma Tryz.prog 140 (.sl 178 2 32 [.int .i64 0,.own 23 0 []]):=QH (zv:=.agg #[.int .i64 0,.slice none 0 0]) (by kernel_rfl) (by kernel_rfl) (by kernel_rfl) (Cc (Kn .i64) (Cc (ET 23) (E8))) rfl (by decide) (by decide) (by decide)
theorem wA:Ma Tryz.prog 154 (.st 3 [.str [],.int .i64 0,.own 23 0 []] [(0,1),(1,2)]):=K6 (us:=[.string ⟨#[]⟩,.int .i64 0,.slice none 0 0]) (by kernel_rfl) (Cc (To) (Cc (Kn .i64) (Cc (ET 23) (E8)))) Tryz.underlying154 (by kernel_rfl) (by decide) (by kernel_rfl)
theorem wB:Ma Tryz.prog 176 (.sl 5 1 1 [.int .u8 0]):=QH (zv:=.int .u8 0) (by kernel_rfl) (by kernel_rfl) (by kernel_rfl) (Cc (Kn .u8) (E8)) rfl (by decide) (by decide) (by decide)
theorem wC:Ma Tryz.prog 178 (.st 2 [.int .i64 0,.own 23 0 []] [(0,1),(1,1)]):=K6 (us:=[.int .i64 0,.slice none 0 0]) (by kernel_rfl) (Cc (Kn .i64) (Cc (ET 23) (E8))) Tryz.underlying178 (by kernel_rfl) (by decide) (by kernel_rfl)
theorem wD:Ma Tryz.prog 193 (.st 1 [.own 3 0 []] [(0,1)]):=K6 (us:=[.slice none 0 0]) (by kernel_rfl) (Cc (ET 3) (E8)) Tryz.underlying193 (by kernel_rfl) (by decide) (by kernel_rfl)
theorem wE:Ma Tryz.prog 219 (.sc (.tok .nilFunc)):=wG (by kernel_rfl) (by kernel_rfl)
theorem wF:Ma Tryz.prog 237 (.sc (.int .u32 0)):=UH .u32 (by kernel_rfl) (by kernel_rfl)
def tb:Tb:=λt=>match t with
 |2=>some (.sc (.int .i64 0))
 |3=>some (.sc (.int .i64 0))
 |4=>some (.sc (.bool false))
 |5=>some (.sc (.int .u8 0))
 |9=>some (.sc (.str []))
 |12=>some (.sc (.int .u64 0))
 |21=>some (.sc (.int .i32 0))
 |22=>some (.sl 101 2 40 [.str [],.own 3 0 []])
 |23=>some (.sl 3 1 8 [.int .i64 0])
 |25=>some (.st 3 [.int .i64 0,.own 101 0 [],.own 3 0 []] [(0,1),(1,1),(2,1)])
 |28=>some (.st 1 [.own 3 0 []] [(0,1)])
 |29=>some (.sl 23 1 24 [.own 3 0 []])
 |31=>some (.st 2 [.own 23 0 [],.own 3 0 []] [(0,1),(1,1)])
 |33=>some (.st 5 [.int .i64 0,.own 3 0 [],.own 3 0 [],.own 23 0 [],.own 3 0 []] [(0,1),(1,1),(2,1),(3,2)])
 |36=>some (.sl 104 2 40 [.str [],.own 3 0 []])
 |38=>some (.st 3 [.int .i64 0,.own 104 0 [],.own 3 0 []] [(0,1),(1,1),(2,1)])
 |48=>some (.sl 139 3 48 [.str [],.int .i64 0,.own 23 0 []])
 |50=>some (.st 1 [.own 139 0 []] [(0,1)])
 |52=>some (.sl 71 2 16 [.int .i64 0,.int .i64 0])
 |54=>some (.st 5 [.own 3 0 [],.own 71 0 [],.own 3 0 [],.int .i64 0,.int .i64 0] [(0,1),(1,1),(2,1),(3,1),(4,1)])
 |57=>some (.sl 154 3 48 [.str [],.int .i64 0,.own 23 0 []])
 |59=>some (.st 1 [.own 154 0 []] [(0,1)])
 |71=>some (.st 2 [.int .i64 0,.int .i64 0] [(0,1),(1,1)])
 |87=>some (.st 2 [.int .i64 0,.own 23 0 []] [(0,1),(1,1)])
 |101=>some (.st 2 [.str [],.own 3 0 []] [(0,1),(1,1)])
 |104=>some (.st 2 [.str [],.own 3 0 []] [(0,1),(1,1)])
 |113=>some (.sl 52 1 24 [.own 71 0 []])
 |115=>some (.st 3 [.own 52 0 [],.own 71 0 [],.own 71 0 []] [(0,1),(1,1),(2,1)])
 |124=>some (.sl 4 1 1 [.bool false])
 |137=>some (.st 2 [.int .i64 0,.own 23 0 []] [(0,1),(1,1)])
 |139=>some (.st 3 [.str [],.int .i64 0,.own 23 0 []] [(0,1),(1,2)])
 |140=>some (.sl 178 2 32 [.int .i64 0,.own 23 0 []])
 |154=>some (.st 3 [.str [],.int .i64 0,.own 23 0 []] [(0,1),(1,2)])
 |176=>some (.sl 5 1 1 [.int .u8 0])
 |178=>some (.st 2 [.int .i64 0,.own 23 0 []] [(0,1),(1,1)])
 |193=>some (.st 1 [.own 3 0 []] [(0,1)])
 |219=>some (.sc (.tok .nilFunc))
 |237=>some (.sc (.int .u32 0))
 |_=>none
theorem FZ:H5 Tryz.prog tb:=by
 intro t d h
 unfold tb at h
 split at h
 ·injection h with h;subst h;exact Ad5
 ·injection h with h;subst h;exact Ad6
 ·injection h with h;subst h;exact Ad7
 ·injection h with h;subst h;exact Ad8
 ·injection h with h;subst h;exact Ad9
 ·injection h with h;subst h;exact Abj
 ·injection h with h;subst h;exact Abk
 ·injection h with h;subst h;exact Abl
 ·injection h with h;subst h;exact Abm
 ·injection h with h;subst h;exact Abn
 ·injection h with h;subst h;exact Abp
 ·injection h with h;subst h;exact Abq
 ·injection h with h;subst h;exact Abr
 ·injection h with h;subst h;exact Abs
 ·injection h with h;subst h;exact Abt
 ·injection h with h;subst h;exact Abu
 ·injection h with h;subst h;exact Abv
 ·injection h with h;subst h;exact Abw
 ·injection h with h;subst h;exact Abx
 ·injection h with h;subst h;exact Aby
 ·injection h with h;subst h;exact Abz
 ·injection h with h;subst h;exact AbA
 ·injection h with h;subst h;exact AbB
 ·injection h with h;subst h;exact AbC
 ·injection h with h;subst h;exact ws
 ·injection h with h;subst h;exact wt
 ·injection h with h;subst h;exact wu
 ·injection h with h;subst h;exact wv
 ·injection h with h;subst h;exact ww
 ·injection h with h;subst h;exact wx
 ·injection h with h;subst h;exact wy
 ·injection h with h;subst h;exact wz
 ·injection h with h;subst h;exact wA
 ·injection h with h;subst h;exact wB
 ·injection h with h;subst h;exact wC
 ·injection h with h;subst h;exact wD
 ·injection h with h;subst h;exact wE
 ·injection h with h;subst h;exact wF
 ·cases h
theorem mixed:Tryz.prog.follows .mixedOrders=true:=by kernel_rfl
abbrev BS(f:Nat)(bx:List Nat)(base:List (Nat×Nat))(cn:List (Nat×List Nat))(fn:Func):Prop:=Lit Tryz.prog f fn.ntmps bx fn.results.toList (S3 base cn (cdF fn))
section
variable {nt:Nat}{bx cns:List Nat}{Q:Exit->PS->Prop}{l l' y:LC}{L L':PL}{σ:PS}{ops:List LO}{fps:List (List Nat×List Nat)}{es:List (List Nat)}
theorem rn(n:Nat)(h:qW tb n l L=some (l',L'))(k:LS Tryz.prog nt bx l' (Ct L') Q):LS Tryz.prog nt bx l (Ct L) Q:=l9 FZ h k
theorem DN{x y:LC}(e:qW tb 1 x L=some (l',L'))(h:∀{K:PS->Prop},(∀σ',LS Tryz.prog nt bx y σ' Q->K σ')->LS Tryz.prog nt bx l' (Ct L') (UA K Q)):LS Tryz.prog nt bx (.seq x y) (Ct L) Q:=Ap λ_ h1=>rn 1 e (h h1)
theorem rs(h:Yv Tryz.prog tb cns ops σ (λσ'=>LS Tryz.prog nt bx y σ' Q)):LS Tryz.prog nt bx (.seq (.rgn cns ops) y) σ Q:=pU FZ h
theorem rk(h:∀K:PS->Prop,(∀σ',LS Tryz.prog nt bx y σ' Q->K σ')->Yv Tryz.prog tb cns ops σ K):LS Tryz.prog nt bx (.seq (.rgn cns ops) y) σ Q:=tU FZ h
theorem rg(h:Yv Tryz.prog tb cns ops σ (Q .normal)):LS Tryz.prog nt bx (.rgn cns ops) σ Q:=pT FZ h
theorem rd(hD:(okD fps es ops&&okF cns fps ops)=true)(h:Yu Tryz.prog tb cns fps ops σ (λσ'=>LS Tryz.prog nt bx y σ' Q)):LS Tryz.prog nt bx (.seq (.drw cns fps es ops) y) σ Q:=vY FZ mixed hD h
theorem rdk(hD:(okD fps es ops&&okF cns fps ops)=true)(h:∀K:PS->Prop,(∀σ',LS Tryz.prog nt bx y σ' Q->K σ')->Yu Tryz.prog tb cns fps ops σ K):LS Tryz.prog nt bx (.seq (.drw cns fps es ops) y) σ Q:=tT FZ mixed hD h
theorem rgd(hD:(okD fps es ops&&okF cns fps ops)=true)(h:Yu Tryz.prog tb cns fps ops σ (Q .normal)):LS Tryz.prog nt bx (.drw cns fps es ops) σ Q:=pQ FZ mixed hD h
theorem st{f:Nat}{fn:Func}{base:List (Nat×Nat)}{cn:List (Nat×List Nat)}{args:List V}{r:V}(hl:BS f bx base cn fn)(h0:(Nat.ble args.length fn.ntmps&&(args.all Q8&&okR (Sl 0 args)))=true)(h:LS Tryz.prog fn.ntmps bx (S3 base cn (cdF fn)) (Ct (Sl 0 args)) (qU tb fn.results.toList r)):Aw Tryz.prog f args r:=by
 simp only[Ac]at h0
 exact nC FZ hl (nb h0.1) h0.2.1 (qi args h0.2.2 h)
theorem rt(p:Nat)(hD:(okD fps es ops&&(okF cns fps ops&&okT p es ops))=true)(h:Yu Tryz.prog tb cns (fps.take p) (ops.take p) σ (λσ'=>Gh Tryz.prog nt bx σ' (λσ2=>Yv Tryz.prog tb cns (ops.drop p) σ2 (λσ'=>LS Tryz.prog nt bx y σ' Q)))):LS Tryz.prog nt bx (.seq (.drw cns fps es ops) y) σ Q:=aT (jV FZ mixed p hD h)
theorem rgt(p:Nat)(hD:(okD fps es ops&&(okF cns fps ops&&okT p es ops))=true)(h:Yu Tryz.prog tb cns (fps.take p) (ops.take p) σ (λσ'=>Gh Tryz.prog nt bx σ' (λσ2=>Yv Tryz.prog tb cns (ops.drop p) σ2 (Q .normal)))):LS Tryz.prog nt bx (.drw cns fps es ops) σ Q:=jV FZ mixed p hD h
theorem stl{f:Nat}{fn:Func}{base:List (Nat×Nat)}{cn:List (Nat×List Nat)}{os args args' os':List V}{rb:Bool}(hl:BS f bx base cn fn)(h0:(Nat.ble (os.length+args.length) fn.ntmps&&(pC bx os.length&&(os.all aC&&(os'.all V.Do&&okR (Sl 0 (os++args'))))))=true)(ha:args.all KK=true)(he:args.map ND=args')(hd:Cm os=true)(hd':Cm os'=true)(h:LS Tryz.prog fn.ntmps bx (S3 base cn (cdF fn)) (Ct (Sl 0 (os++args'))) (Adt tb fn.results.toList os.length os' (.bool rb))):TP Tryz.prog f os args os' (.bool rb):=by
 subst he
 rw[Ac,Ac,Ac,Ac]at h0
 exact pB FZ hl (nb h0.1) h0.2.1 ha hd h0.2.2.1 hd' h0.2.2.2.1 (qi _ h0.2.2.2.2 h)
theorem stv{f:Nat}{fn:Func}{base:List (Nat×Nat)}{cn:List (Nat×List Nat)}{us:List Value}{css css':List (List V)}{args:List V}{r:V}(hl:BS f bx base cn fn)(h0:(Nat.ble (args.length+css.length) fn.ntmps&&(Nat.ble fn.ntmps 910000&&(Aa9 bx args.length css.length&&(args.all Q8&&okR (Wl args.length us (Sl 0 (args++css.map V.box)))))))=true)(hrp:r=.tup []∨Nt r=true)(h:LS Tryz.prog fn.ntmps bx (S3 base cn (cdF fn)) (Ct (Wl args.length us (Sl 0 (args++css.map V.box)))) (Adu tb fn.results.toList args.length css.length css' r)):V9 Tryz.prog f us css args css' r:=by
 rw[Ac,Ac,Ac,Ac]at h0
 exact vt FZ hl (nb h0.1) (nb h0.2.1) h0.2.2.1 h0.2.2.2.1 hrp (qiv (by have:=nb h0.1;have:=nb h0.2.1;rw[Aq,Aj];omega) h0.2.2.2.2 h)
theorem sta{f:Nat}{fn:Func}{base:List (Nat×Nat)}{cn:List (Nat×List Nat)}{args args':List V}{r:V}(hl:BS f bx base cn fn)(h0:(Nat.ble args.length fn.ntmps&&okR (Sl 0 args'))=true)(ha:args.all KK=true)(he:args.map ND=args')(hr:kT r=true)(h:LS Tryz.prog fn.ntmps bx (S3 base cn (cdF fn)) (Ct (Sl 0 args')) (qU tb fn.results.toList r)):Aw Tryz.prog f args r:=by
 subst he
 simp only[Ac]at h0
 exact kq FZ hl (nb h0.1) ha hr (qi _ h0.2 h)
end
end Go.Proofs.YtaagdgjndpgdgaaGreatDoor
