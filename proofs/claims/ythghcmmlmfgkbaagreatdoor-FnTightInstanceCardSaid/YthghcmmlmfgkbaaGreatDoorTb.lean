/-
 The pure machine's table of this program's types, printed by gentab.py, and that it is so. No conditions.
-/
import Derived.Test.YthghcmmlmfgkbaaGreatDoorKe
import Derived.Test.YthghcmmlmfgkbaaGreatDoorProg
open Go.RowKit
set_option linter.unusedVariables false
set_option linter.unusedSimpArgs false
namespace Go.Proofs.YthghcmmlmfgkbaaGreatDoor
set_option maxRecDepth 100000
abbrev Bn:=Ks Tryz.prog
theorem Aaq:M1 Tryz.prog 2 (.sc (.int .i64 0)):=QK .i64 (by kernel_rfl) (by kernel_rfl)
theorem Aar:M1 Tryz.prog 3 (.sc (.int .i64 0)):=QK .i64 (by kernel_rfl) (by kernel_rfl)
theorem Aas:M1 Tryz.prog 4 (.sc (.bool false)):=jT (by kernel_rfl) (by kernel_rfl)
theorem Aat:M1 Tryz.prog 5 (.sc (.int .u8 0)):=QK .u8 (by kernel_rfl) (by kernel_rfl)
theorem Aau:M1 Tryz.prog 9 (.sc (.str [])):=n6 (by kernel_rfl) (by kernel_rfl)
theorem wd:M1 Tryz.prog 12 (.sc (.int .u64 0)):=QK .u64 (by kernel_rfl) (by kernel_rfl)
theorem we:M1 Tryz.prog 21 (.sc (.int .i32 0)):=QK .i32 (by kernel_rfl) (by kernel_rfl)
theorem wg:M1 Tryz.prog 22 (.sl 5 1 1 [.int .u8 0]):=QL (zv:=.int .u8 0) (by kernel_rfl) (by kernel_rfl) (by kernel_rfl) (Dw (NO .u8) HW) rfl (by decide) (by decide) (by decide)
theorem wh:M1 Tryz.prog 24 (.sl 67 2 40 [.str [],.own 3 0 []]):=QL (zv:=.agg #[.string ⟨#[]⟩,.slice none 0 0]) (by kernel_rfl) (by kernel_rfl) (by kernel_rfl) (Dw VF (Dw (MQ 3) HW)) rfl (by decide) (by decide) (by decide)
theorem wi:M1 Tryz.prog 25 (.sl 3 1 8 [.int .i64 0]):=QL (zv:=.int .i64 0) (by kernel_rfl) (by kernel_rfl) (by kernel_rfl) (Dw (NO .i64) HW) rfl (by decide) (by decide) (by decide)
theorem wj:M1 Tryz.prog 27 (.st 3 [.int .i64 0,.own 67 0 [],.own 3 0 []] [(0,1),(1,1),(2,1)]):=QM (us:=[.int .i64 0,.slice none 0 0,.slice none 0 0]) (by kernel_rfl) (Dw (NO .i64) (Dw (MQ 67) (Dw (MQ 3) HW))) Tryz.underlying27 (by kernel_rfl) (by decide) (by kernel_rfl)
theorem wk:M1 Tryz.prog 30 (.sl 32 2 16 [.int .i64 0,.int .i64 0]):=QL (zv:=.agg #[.int .i64 0,.int .i64 0]) (by kernel_rfl) (by kernel_rfl) (by kernel_rfl) (Dw (NO .i64) (Dw (NO .i64) HW)) rfl (by decide) (by decide) (by decide)
theorem wl:M1 Tryz.prog 32 (.st 2 [.int .i64 0,.int .i64 0] [(0,1),(1,1)]):=QM (us:=[.int .i64 0,.int .i64 0]) (by kernel_rfl) (Dw (NO .i64) (Dw (NO .i64) HW)) Tryz.underlying32 (by kernel_rfl) (by decide) (by kernel_rfl)
theorem wm:M1 Tryz.prog 38 (.sl 75 3 48 [.str [],.int .i64 0,.own 25 0 []]):=QL (zv:=.agg #[.string ⟨#[]⟩,.int .i64 0,.slice none 0 0]) (by kernel_rfl) (by kernel_rfl) (by kernel_rfl) (Dw VF (Dw (NO .i64) (Dw (MQ 25) HW))) rfl (by decide) (by decide) (by decide)
theorem wn:M1 Tryz.prog 40 (.st 1 [.own 75 0 []] [(0,1)]):=QM (us:=[.slice none 0 0]) (by kernel_rfl) (Dw (MQ 75) HW) Tryz.underlying40 (by kernel_rfl) (by decide) (by kernel_rfl)
theorem wo:M1 Tryz.prog 49 (.sl 25 1 24 [.own 3 0 []]):=QL (zv:=.slice none 0 0) (by kernel_rfl) (by kernel_rfl) (by kernel_rfl) (Dw (MQ 3) HW) rfl (by decide) (by decide) (by decide)
theorem wq:M1 Tryz.prog 51 (.st 2 [.int .i64 0,.own 25 0 []] [(0,1),(1,1)]):=QM (us:=[.int .i64 0,.slice none 0 0]) (by kernel_rfl) (Dw (NO .i64) (Dw (MQ 25) HW)) Tryz.underlying51 (by kernel_rfl) (by decide) (by kernel_rfl)
theorem wr:M1 Tryz.prog 56 (.sl 30 1 24 [.own 32 0 []]):=QL (zv:=.slice none 0 0) (by kernel_rfl) (by kernel_rfl) (by kernel_rfl) (Dw (MQ 32) HW) rfl (by decide) (by decide) (by decide)
theorem ws:M1 Tryz.prog 58 (.st 3 [.own 30 0 [],.own 32 0 [],.own 32 0 []] [(0,1),(1,1),(2,1)]):=QM (us:=[.slice none 0 0,.slice none 0 0,.slice none 0 0]) (by kernel_rfl) (Dw (MQ 30) (Dw (MQ 32) (Dw (MQ 32) HW))) Tryz.underlying58 (by kernel_rfl) (by decide) (by kernel_rfl)
theorem wt:M1 Tryz.prog 67 (.st 2 [.str [],.own 3 0 []] [(0,1),(1,1)]):=QM (us:=[.string ⟨#[]⟩,.slice none 0 0]) (by kernel_rfl) (Dw VF (Dw (MQ 3) HW)) Tryz.underlying67 (by kernel_rfl) (by decide) (by kernel_rfl)
theorem wu:M1 Tryz.prog 75 (.st 3 [.str [],.int .i64 0,.own 25 0 []] [(0,1),(1,2)]):=QM (us:=[.string ⟨#[]⟩,.int .i64 0,.slice none 0 0]) (by kernel_rfl) (Dw VF (Dw (NO .i64) (Dw (MQ 25) HW))) Tryz.underlying75 (by kernel_rfl) (by decide) (by kernel_rfl)
theorem wv:M1 Tryz.prog 91 (.st 3 [.own 5 0 [],.int .i64 0,.int .i64 0] [(0,1),(1,1),(2,1)]):=QM (us:=[.slice none 0 0,.int .i64 0,.int .i64 0]) (by kernel_rfl) (Dw (MQ 5) (Dw (NO .i64) (Dw (NO .i64) HW))) Tryz.underlying91 (by kernel_rfl) (by decide) (by kernel_rfl)
theorem sT:M1 Tryz.prog 113 (.sl 9 1 16 [.str []]):=QL (zv:=.string ⟨#[]⟩) (by kernel_rfl) (by kernel_rfl) (by kernel_rfl) (Dw VF HW) rfl (by decide) (by decide) (by decide)
theorem sU:M1 Tryz.prog 127 (.sl 4 1 1 [.bool false]):=QL (zv:=.bool false) (by kernel_rfl) (by kernel_rfl) (by kernel_rfl) (Dw (iP) HW) rfl (by decide) (by decide) (by decide)
theorem sV:M1 Tryz.prog 131 (.st 1 [.own 3 0 []] [(0,1)]):=QM (us:=[.slice none 0 0]) (by kernel_rfl) (Dw (MQ 3) HW) Tryz.underlying131 (by kernel_rfl) (by decide) (by kernel_rfl)
theorem sW:M1 Tryz.prog 149 (.sc (.tok .nilFunc)):=sZ (by kernel_rfl) (by kernel_rfl)
theorem sX:M1 Tryz.prog 153 (.sc (.int .u64 0)):=QK .u64 (by kernel_rfl) (by kernel_rfl)
theorem sY:M1 Tryz.prog 166 (.sc (.int .u32 0)):=QK .u32 (by kernel_rfl) (by kernel_rfl)
def tb:Tb:=λt=>match t with
 |2=>some (.sc (.int .i64 0))
 |3=>some (.sc (.int .i64 0))
 |4=>some (.sc (.bool false))
 |5=>some (.sc (.int .u8 0))
 |9=>some (.sc (.str []))
 |12=>some (.sc (.int .u64 0))
 |21=>some (.sc (.int .i32 0))
 |22=>some (.sl 5 1 1 [.int .u8 0])
 |24=>some (.sl 67 2 40 [.str [],.own 3 0 []])
 |25=>some (.sl 3 1 8 [.int .i64 0])
 |27=>some (.st 3 [.int .i64 0,.own 67 0 [],.own 3 0 []] [(0,1),(1,1),(2,1)])
 |30=>some (.sl 32 2 16 [.int .i64 0,.int .i64 0])
 |32=>some (.st 2 [.int .i64 0,.int .i64 0] [(0,1),(1,1)])
 |38=>some (.sl 75 3 48 [.str [],.int .i64 0,.own 25 0 []])
 |40=>some (.st 1 [.own 75 0 []] [(0,1)])
 |49=>some (.sl 25 1 24 [.own 3 0 []])
 |51=>some (.st 2 [.int .i64 0,.own 25 0 []] [(0,1),(1,1)])
 |56=>some (.sl 30 1 24 [.own 32 0 []])
 |58=>some (.st 3 [.own 30 0 [],.own 32 0 [],.own 32 0 []] [(0,1),(1,1),(2,1)])
 |67=>some (.st 2 [.str [],.own 3 0 []] [(0,1),(1,1)])
 |75=>some (.st 3 [.str [],.int .i64 0,.own 25 0 []] [(0,1),(1,2)])
 |91=>some (.st 3 [.own 5 0 [],.int .i64 0,.int .i64 0] [(0,1),(1,1),(2,1)])
 |113=>some (.sl 9 1 16 [.str []])
 |127=>some (.sl 4 1 1 [.bool false])
 |131=>some (.st 1 [.own 3 0 []] [(0,1)])
 |149=>some (.sc (.tok .nilFunc))
 |153=>some (.sc (.int .u64 0))
 |166=>some (.sc (.int .u32 0))
 |_=>none
theorem UM:IG Tryz.prog tb:=by
 intro t d h
 unfold tb at h
 split at h
 ·injection h with h;subst h;exact Aaq
 ·injection h with h;subst h;exact Aar
 ·injection h with h;subst h;exact Aas
 ·injection h with h;subst h;exact Aat
 ·injection h with h;subst h;exact Aau
 ·injection h with h;subst h;exact wd
 ·injection h with h;subst h;exact we
 ·injection h with h;subst h;exact wg
 ·injection h with h;subst h;exact wh
 ·injection h with h;subst h;exact wi
 ·injection h with h;subst h;exact wj
 ·injection h with h;subst h;exact wk
 ·injection h with h;subst h;exact wl
 ·injection h with h;subst h;exact wm
 ·injection h with h;subst h;exact wn
 ·injection h with h;subst h;exact wo
 ·injection h with h;subst h;exact wq
 ·injection h with h;subst h;exact wr
 ·injection h with h;subst h;exact ws
 ·injection h with h;subst h;exact wt
 ·injection h with h;subst h;exact wu
 ·injection h with h;subst h;exact wv
 ·injection h with h;subst h;exact sT
 ·injection h with h;subst h;exact sU
 ·injection h with h;subst h;exact sV
 ·injection h with h;subst h;exact sW
 ·injection h with h;subst h;exact sX
 ·injection h with h;subst h;exact sY
 ·cases h
theorem mixed:Tryz.prog.follows .mixedOrders=true:=by kernel_rfl
abbrev Cw(f:Nat)(bx:zN)(base:List (Nat×Nat))(cn:List (Nat×zN))(fn:Func):Prop:=Lit Tryz.prog f fn.ntmps bx fn.results.toList (P7 base cn (cdF fn))
section
variable {nt:Nat}{bx cns:zN}{Q:Exit->PS->Prop}{l l' y:LC}{L L':PL}{σ:PS}{ops:List LO}{fps:List (zN×zN)}{es:List zN}
theorem rn(n:Nat)(h:mX tb n l L=some (l',L'))(k:LS Tryz.prog nt bx l' (Cv L') Q):LS Tryz.prog nt bx l (Cv L) Q:=ia UM h k
theorem Fu{x y:LC}(e:mX tb 1 x L=some (l',L'))(h:∀{K:PS->Prop},(∀σ',LS Tryz.prog nt bx y σ' Q->K σ')->LS Tryz.prog nt bx l' (Cv L') (Sg K Q)):LS Tryz.prog nt bx (.seq x y) (Cv L) Q:=As λ_ h1=>rn 1 e (h h1)
theorem rs(h:UQ Tryz.prog tb cns ops σ (λσ'=>LS Tryz.prog nt bx y σ' Q)):LS Tryz.prog nt bx (.seq (.rgn cns ops) y) σ Q:=lY UM h
theorem rsB{α:Type}(f:α->List V)(l:List α)(e:TypeId)(es:Nat){L:PL}{s d t:TypeId}{n:Nat}{ps:Array (Nat×Operand)}{ops':List LO}(h:bsO tb L s n ps.toList=some (e,es,L,l.flatMap f))(hn:l.length=n)(hf:∀x,(f x).length=es)(k:UQ Tryz.prog tb cns ops' (Cv ((d,.own e l.length (l.flatMap f))::L)) (λσ'=>LS Tryz.prog nt bx y σ' Q)):LS Tryz.prog nt bx (.seq (.rgn cns (⟨some d,.buildSlice s n ps,t,none⟩::ops')) y) (Cv L) Q:=rs (qBk f l e es h hn hf k)
theorem rk(h:∀K:PS->Prop,(∀σ',LS Tryz.prog nt bx y σ' Q->K σ')->UQ Tryz.prog tb cns ops σ K):LS Tryz.prog nt bx (.seq (.rgn cns ops) y) σ Q:=pL UM h
theorem rg(h:UQ Tryz.prog tb cns ops σ (Q .normal)):LS Tryz.prog nt bx (.rgn cns ops) σ Q:=lX UM h
theorem rd(hD:(okD fps es ops&&okF cns fps ops)=true)(h:VI Tryz.prog tb cns fps ops σ (λσ'=>LS Tryz.prog nt bx y σ' Q)):LS Tryz.prog nt bx (.seq (.drw cns fps es ops) y) σ Q:=rY UM mixed hD h
theorem rdk(hD:(okD fps es ops&&okF cns fps ops)=true)(h:∀K:PS->Prop,(∀σ',LS Tryz.prog nt bx y σ' Q->K σ')->VI Tryz.prog tb cns fps ops σ K):LS Tryz.prog nt bx (.seq (.drw cns fps es ops) y) σ Q:=pK UM mixed hD h
theorem rgd(hD:(okD fps es ops&&okF cns fps ops)=true)(h:VI Tryz.prog tb cns fps ops σ (Q .normal)):LS Tryz.prog nt bx (.drw cns fps es ops) σ Q:=lT UM mixed hD h
theorem st{f:Nat}{fn:Func}{base:List (Nat×Nat)}{cn:List (Nat×zN)}{args:List V}{r:V}(hl:Cw f bx base cn fn)(h0:(Nat.ble args.length fn.ntmps&&(args.all L6&&okR (OQ 0 args)))=true)(h:LS Tryz.prog fn.ntmps bx (P7 base cn (cdF fn)) (Cv (OQ 0 args)) (mS tb fn.results.toList r)):Ks Tryz.prog f args r:=by
 simp only[Aa]at h0
 exact jL UM hl (nb h0.1) h0.2.1 (qi args h0.2.2 h)
theorem rt(p:Nat)(hD:(okD fps es ops&&(okF cns fps ops&&okT p es ops))=true)(h:VI Tryz.prog tb cns (fps.take p) (ops.take p) σ (λσ'=>Gh Tryz.prog nt bx σ' (λσ2=>UQ Tryz.prog tb cns (ops.drop p) σ2 (λσ'=>LS Tryz.prog nt bx y σ' Q)))):LS Tryz.prog nt bx (.seq (.drw cns fps es ops) y) σ Q:=ZR (dZ UM mixed p hD h)
theorem rgt(p:Nat)(hD:(okD fps es ops&&(okF cns fps ops&&okT p es ops))=true)(h:VI Tryz.prog tb cns (fps.take p) (ops.take p) σ (λσ'=>Gh Tryz.prog nt bx σ' (λσ2=>UQ Tryz.prog tb cns (ops.drop p) σ2 (Q .normal)))):LS Tryz.prog nt bx (.drw cns fps es ops) σ Q:=dZ UM mixed p hD h
theorem stp{f:Nat}{fn:Func}{base:List (Nat×Nat)}{cn:List (Nat×zN)}{cs args cs':List V}{r:V}(hl:Cw f bx base cn fn)(h0:(Nat.ble (args.length+1) fn.ntmps&&((bx.contains 0&&bx.contains N9)&&(args.all L6&&(!(fn.results.toList.map JL).contains 0&&(cs'.all HV&&okR (OQ 0 (.box cs::args)))))))=true)(h:LS Tryz.prog fn.ntmps bx (P7 base cn (cdF fn)) (Cv (OQ 0 (.box cs::args))) (zF tb fn.results.toList r cs')):O1 Tryz.prog f cs args cs' r:=by
 simp only[Aa,Ax]at h0
 exact qp UM hl (nb h0.1) (by rw[Aa];exact h0.2.1) h0.2.2.1 h0.2.2.2.1 h0.2.2.2.2.1 (qi _ h0.2.2.2.2.2 h)
theorem stl{f:Nat}{fn:Func}{base:List (Nat×Nat)}{cn:List (Nat×zN)}{os args args' os':List V}{rb:Bool}(hl:Cw f bx base cn fn)(h0:(Nat.ble (os.length+args.length) fn.ntmps&&(lJ bx os.length&&(os.all W6&&(os'.all V.Ds&&okR (OQ 0 (os++args'))))))=true)(ha:args.all JX=true)(he:args.map MY=args')(hd:E1 os=true)(hd':E1 os'=true)(h:LS Tryz.prog fn.ntmps bx (P7 base cn (cdF fn)) (Cv (OQ 0 (os++args'))) (zD tb fn.results.toList os.length os' (.bool rb))):P3 Tryz.prog f [] os args os' (.bool rb):=by
 subst he
 rw[Aa,Aa,Aa,Aa]at h0
 exact lH UM hl (nb h0.1) h0.2.1 ha hd h0.2.2.1 hd' h0.2.2.2.1 (qi _ h0.2.2.2.2 h)
theorem stv{f:Nat}{fn:Func}{base:List (Nat×Nat)}{cn:List (Nat×zN)}{us:List Value}{css css':List (List V)}{args:List V}{r:V}(hl:Cw f bx base cn fn)(h0:(Nat.ble (args.length+css.length) fn.ntmps&&(Nat.ble fn.ntmps 910000&&(vS bx args.length css.length&&(args.all L6&&okR (Uc args.length us (OQ 0 (args++css.map V.box)))))))=true)(hrp:r=.tup []∨HV r=true)(h:LS Tryz.prog fn.ntmps bx (P7 base cn (cdF fn)) (Cv (Uc args.length us (OQ 0 (args++css.map V.box)))) (zG tb fn.results.toList args.length css.length css' r)):TT Tryz.prog f us css args css' r:=by
 rw[Aa,Aa,Aa,Aa]at h0
 exact rE UM hl (nb h0.1) (nb h0.2.1) h0.2.2.1 h0.2.2.2.1 hrp (qiv (by have:=nb h0.1;have:=nb h0.2.1;rw[Aw,Ak];omega) h0.2.2.2.2 h)
theorem stn{f t:Nat}{fn:Func}{base:List (Nat×Nat)}{cn:List (Nat×zN)}{args cs:List V}(hl:Cw f bx base cn fn)(hr:fn.results.toList=[.tmp t])(h0:(Nat.ble args.length fn.ntmps&&(args.all L6&&(cs.all HV&&okR (OQ 0 args))))=true)(h:LS Tryz.prog fn.ntmps bx (P7 base cn (cdF fn)) (Cv (OQ 0 args)) (zE t cs)):NewAt Tryz.prog f args cs:=by
 rw[Aa,Aa,Aa]at h0
 unfold Cw at hl
 rw[hr]at hl
 exact pW hl (nb h0.1) h0.2.1 h0.2.2.1 (qi args h0.2.2.2 h)
theorem sta{f:Nat}{fn:Func}{base:List (Nat×Nat)}{cn:List (Nat×zN)}{args args':List V}{r:V}(hl:Cw f bx base cn fn)(h0:(Nat.ble args.length fn.ntmps&&okR (OQ 0 args'))=true)(ha:args.all JX=true)(he:args.map MY=args')(hr:fB r=true)(h:LS Tryz.prog fn.ntmps bx (P7 base cn (cdF fn)) (Cv (OQ 0 args')) (mS tb fn.results.toList r)):Ks Tryz.prog f args r:=by
 subst he
 simp only[Aa]at h0
 exact eL UM hl (nb h0.1) ha hr (qi _ h0.2 h)
end
end Go.Proofs.YthghcmmlmfgkbaaGreatDoor
