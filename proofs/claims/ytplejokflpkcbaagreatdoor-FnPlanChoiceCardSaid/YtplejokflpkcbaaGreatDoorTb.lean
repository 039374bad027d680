/-
 The pure machine's table of this program's types, printed by gentab.py, and that it is so. No conditions.
-/
import Derived.Test.YtplejokflpkcbaaGreatDoorKe
import Derived.Test.YtplejokflpkcbaaGreatDoorProg
open Go.RowKit
set_option linter.unusedVariables false
set_option linter.unusedSimpArgs false
namespace Go.Proofs.YtplejokflpkcbaaGreatDoor
set_option maxRecDepth 100000
theorem xS:NH Tryz.prog 2 (.sc (.int .i64 0)):=Ri .i64 (by kernel_rfl) (by kernel_rfl)
theorem xT:NH Tryz.prog 3 (.sc (.int .i64 0)):=Ri .i64 (by kernel_rfl) (by kernel_rfl)
theorem xU:NH Tryz.prog 4 (.sc (.bool false)):=gZ (by kernel_rfl) (by kernel_rfl)
theorem xV:NH Tryz.prog 5 (.sc (.int .u8 0)):=Ri .u8 (by kernel_rfl) (by kernel_rfl)
theorem xW:NH Tryz.prog 9 (.sc (.str [])):=lO (by kernel_rfl) (by kernel_rfl)
theorem tI:NH Tryz.prog 12 (.sc (.int .u64 0)):=Ri .u64 (by kernel_rfl) (by kernel_rfl)
theorem tJ:NH Tryz.prog 21 (.sc (.int .i32 0)):=Ri .i32 (by kernel_rfl) (by kernel_rfl)
theorem tK:NH Tryz.prog 22 (.sl 5 1 1 [.int .u8 0]):=R4 (zv:=.int .u8 0) (by kernel_rfl) (by kernel_rfl) (by kernel_rfl) (DF (Qc .u8) (Jl)) rfl (by decide) (by decide) (by decide)
theorem tL:NH Tryz.prog 24 (.sl 86 2 40 [.str [],.own 3 0 []]):=R4 (zv:=.agg #[.string ⟨#[]⟩,.slice none 0 0]) (by kernel_rfl) (by kernel_rfl) (by kernel_rfl) (DF (aT) (DF (Lb 3) (Jl))) rfl (by decide) (by decide) (by decide)
theorem tM:NH Tryz.prog 25 (.sl 3 1 8 [.int .i64 0]):=R4 (zv:=.int .i64 0) (by kernel_rfl) (by kernel_rfl) (by kernel_rfl) (DF (Qc .i64) (Jl)) rfl (by decide) (by decide) (by decide)
theorem tN:NH Tryz.prog 27 (.st 3 [.int .i64 0,.own 86 0 [],.own 3 0 []] [(0,1),(1,1),(2,1)]):=R5 (us:=[.int .i64 0,.slice none 0 0,.slice none 0 0]) (by kernel_rfl) (DF (Qc .i64) (DF (Lb 86) (DF (Lb 3) (Jl)))) Tryz.underlying27 (by kernel_rfl) (by decide) (by kernel_rfl)
theorem tO:NH Tryz.prog 31 (.st 1 [.own 3 0 []] [(0,1)]):=R5 (us:=[.slice none 0 0]) (by kernel_rfl) (DF (Lb 3) (Jl)) Tryz.underlying31 (by kernel_rfl) (by decide) (by kernel_rfl)
theorem tP:NH Tryz.prog 32 (.sl 25 1 24 [.own 3 0 []]):=R4 (zv:=.slice none 0 0) (by kernel_rfl) (by kernel_rfl) (by kernel_rfl) (DF (Lb 3) (Jl)) rfl (by decide) (by decide) (by decide)
theorem tQ:NH Tryz.prog 34 (.st 2 [.own 25 0 [],.own 3 0 []] [(0,1),(1,1)]):=R5 (us:=[.slice none 0 0,.slice none 0 0]) (by kernel_rfl) (DF (Lb 25) (DF (Lb 3) (Jl))) Tryz.underlying34 (by kernel_rfl) (by decide) (by kernel_rfl)
theorem tR:NH Tryz.prog 36 (.st 5 [.int .i64 0,.own 3 0 [],.own 3 0 [],.own 25 0 [],.own 3 0 []] [(0,1),(1,1),(2,1),(3,2)]):=R5 (us:=[.int .i64 0,.slice none 0 0,.slice none 0 0,.slice none 0 0,.slice none 0 0]) (by kernel_rfl) (DF (Qc .i64) (DF (Lb 3) (DF (Lb 3) (DF (Lb 25) (DF (Lb 3) (Jl)))))) Tryz.underlying36 (by kernel_rfl) (by decide) (by kernel_rfl)
theorem tS:NH Tryz.prog 41 (.st 2 [.int .i64 0,.int .i64 0] [(0,1),(1,1)]):=R5 (us:=[.int .i64 0,.int .i64 0]) (by kernel_rfl) (DF (Qc .i64) (DF (Qc .i64) (Jl))) Tryz.underlying41 (by kernel_rfl) (by decide) (by kernel_rfl)
theorem tT:NH Tryz.prog 44 (.sl 41 2 16 [.int .i64 0,.int .i64 0]):=R4 (zv:=.agg #[.int .i64 0,.int .i64 0]) (by kernel_rfl) (by kernel_rfl) (by kernel_rfl) (DF (Qc .i64) (DF (Qc .i64) (Jl))) rfl (by decide) (by decide) (by decide)
theorem tU:NH Tryz.prog 67 (.sl 44 1 24 [.own 41 0 []]):=R4 (zv:=.slice none 0 0) (by kernel_rfl) (by kernel_rfl) (by kernel_rfl) (DF (Lb 41) (Jl)) rfl (by decide) (by decide) (by decide)
theorem tV:NH Tryz.prog 69 (.st 3 [.own 44 0 [],.own 41 0 [],.own 41 0 []] [(0,1),(1,1),(2,1)]):=R5 (us:=[.slice none 0 0,.slice none 0 0,.slice none 0 0]) (by kernel_rfl) (DF (Lb 44) (DF (Lb 41) (DF (Lb 41) (Jl)))) Tryz.underlying69 (by kernel_rfl) (by decide) (by kernel_rfl)
theorem tW:NH Tryz.prog 76 (.st 3 [.own 5 0 [],.int .i64 0,.int .i64 0] [(0,1),(1,1),(2,1)]):=R5 (us:=[.slice none 0 0,.int .i64 0,.int .i64 0]) (by kernel_rfl) (DF (Lb 5) (DF (Qc .i64) (DF (Qc .i64) (Jl)))) Tryz.underlying76 (by kernel_rfl) (by decide) (by kernel_rfl)
theorem tX:NH Tryz.prog 84 (.sl 4 1 1 [.bool false]):=R4 (zv:=.bool false) (by kernel_rfl) (by kernel_rfl) (by kernel_rfl) (DF (fH) (Jl)) rfl (by decide) (by decide) (by decide)
theorem tY:NH Tryz.prog 86 (.st 2 [.str [],.own 3 0 []] [(0,1),(1,1)]):=R5 (us:=[.string ⟨#[]⟩,.slice none 0 0]) (by kernel_rfl) (DF (aT) (DF (Lb 3) (Jl))) Tryz.underlying86 (by kernel_rfl) (by decide) (by kernel_rfl)
theorem pm:NH Tryz.prog 105 (.sl 9 1 16 [.str []]):=R4 (zv:=.string ⟨#[]⟩) (by kernel_rfl) (by kernel_rfl) (by kernel_rfl) (DF (aT) (Jl)) rfl (by decide) (by decide) (by decide)
theorem pn:NH Tryz.prog 117 (.sc (.int .u64 0)):=Ri .u64 (by kernel_rfl) (by kernel_rfl)
theorem po:NH Tryz.prog 141 (.sc (.tok .nilFunc)):=pq (by kernel_rfl) (by kernel_rfl)
theorem pp:NH Tryz.prog 152 (.sc (.int .u32 0)):=Ri .u32 (by kernel_rfl) (by kernel_rfl)
def tb:Tb:=λt=>match t with
 |2=>some (.sc (.int .i64 0))
 |3=>some (.sc (.int .i64 0))
 |4=>some (.sc (.bool false))
 |5=>some (.sc (.int .u8 0))
 |9=>some (.sc (.str []))
 |12=>some (.sc (.int .u64 0))
 |21=>some (.sc (.int .i32 0))
 |22=>some (.sl 5 1 1 [.int .u8 0])
 |24=>some (.sl 86 2 40 [.str [],.own 3 0 []])
 |25=>some (.sl 3 1 8 [.int .i64 0])
 |27=>some (.st 3 [.int .i64 0,.own 86 0 [],.own 3 0 []] [(0,1),(1,1),(2,1)])
 |31=>some (.st 1 [.own 3 0 []] [(0,1)])
 |32=>some (.sl 25 1 24 [.own 3 0 []])
 |34=>some (.st 2 [.own 25 0 [],.own 3 0 []] [(0,1),(1,1)])
 |36=>some (.st 5 [.int .i64 0,.own 3 0 [],.own 3 0 [],.own 25 0 [],.own 3 0 []] [(0,1),(1,1),(2,1),(3,2)])
 |41=>some (.st 2 [.int .i64 0,.int .i64 0] [(0,1),(1,1)])
 |44=>some (.sl 41 2 16 [.int .i64 0,.int .i64 0])
 |67=>some (.sl 44 1 24 [.own 41 0 []])
 |69=>some (.st 3 [.own 44 0 [],.own 41 0 [],.own 41 0 []] [(0,1),(1,1),(2,1)])
 |76=>some (.st 3 [.own 5 0 [],.int .i64 0,.int .i64 0] [(0,1),(1,1),(2,1)])
 |84=>some (.sl 4 1 1 [.bool false])
 |86=>some (.st 2 [.str [],.own 3 0 []] [(0,1),(1,1)])
 |105=>some (.sl 9 1 16 [.str []])
 |117=>some (.sc (.int .u64 0))
 |141=>some (.sc (.tok .nilFunc))
 |152=>some (.sc (.int .u32 0))
 |_=>none
theorem Uq:H1 Tryz.prog tb:=by
 intro t d h
 unfold tb at h
 split at h
 ·injection h with h;subst h;exact xS
 ·injection h with h;subst h;exact xT
 ·injection h with h;subst h;exact xU
 ·injection h with h;subst h;exact xV
 ·injection h with h;subst h;exact xW
 ·injection h with h;subst h;exact tI
 ·injection h with h;subst h;exact tJ
 ·injection h with h;subst h;exact tK
 ·injection h with h;subst h;exact tL
 ·injection h with h;subst h;exact tM
 ·injection h with h;subst h;exact tN
 ·injection h with h;subst h;exact tO
 ·injection h with h;subst h;exact tP
 ·injection h with h;subst h;exact tQ
 ·injection h with h;subst h;exact tR
 ·injection h with h;subst h;exact tS
 ·injection h with h;subst h;exact tT
 ·injection h with h;subst h;exact tU
 ·injection h with h;subst h;exact tV
 ·injection h with h;subst h;exact tW
 ·injection h with h;subst h;exact tX
 ·injection h with h;subst h;exact tY
 ·injection h with h;subst h;exact pm
 ·injection h with h;subst h;exact pn
 ·injection h with h;subst h;exact po
 ·injection h with h;subst h;exact pp
 ·cases h
theorem mixed:Tryz.prog.follows .mixedOrders=true:=by kernel_rfl
abbrev Cc(f:Nat)(bx:List Nat)(base:List (Nat×Nat))(cn:List (Nat×List Nat))(fn:Func):Prop:=Lit Tryz.prog f fn.ntmps bx fn.results.toList (Ql base cn (cdF fn))
section
variable {nt:Nat}{bx cns:List Nat}{Q:Exit->PS->Prop}{l l' y:LC}{L L':PL}{σ:PS}{ops:List LO}{fps:List (List Nat×List Nat)}{es:List (List Nat)}
theorem rn(n:Nat)(h:kF tb n l L=some (l',L'))(k:LS Tryz.prog nt bx l' (Ce L') Q):LS Tryz.prog nt bx l (Ce L) Q:=fo Uq h k
theorem Fd{x y:LC}(e:kF tb 1 x L=some (l',L'))(h:∀{K:PS->Prop},(∀σ',LS Tryz.prog nt bx y σ' Q->K σ')->LS Tryz.prog nt bx l' (Ce L') (SP K Q)):LS Tryz.prog nt bx (.seq x y) (Ce L) Q:=Aj λ_ h1=>rn 1 e (h h1)
theorem rs(h:Vr Tryz.prog tb cns ops σ (λσ'=>LS Tryz.prog nt bx y σ' Q)):LS Tryz.prog nt bx (.seq (.rgn cns ops) y) σ Q:=jK Uq h
theorem rsB{α:Type}(f:α->List V)(l:List α)(e:TypeId)(es:Nat){L:PL}{s d t:TypeId}{n:Nat}{ps:Array (Nat×Operand)}{ops':List LO}(h:bsO tb L s n ps.toList=some (e,es,L,l.flatMap f))(hn:l.length=n)(hf:∀x,(f x).length=es)(k:Vr Tryz.prog tb cns ops' (Ce ((d,.own e l.length (l.flatMap f))::L)) (λσ'=>LS Tryz.prog nt bx y σ' Q)):LS Tryz.prog nt bx (.seq (.rgn cns (⟨some d,.buildSlice s n ps,t,none⟩::ops')) y) (Ce L) Q:=rs (qBk f l e es h hn hf k)
theorem rk(h:∀K:PS->Prop,(∀σ',LS Tryz.prog nt bx y σ' Q->K σ')->Vr Tryz.prog tb cns ops σ K):LS Tryz.prog nt bx (.seq (.rgn cns ops) y) σ Q:=mP Uq h
theorem rg(h:Vr Tryz.prog tb cns ops σ (Q .normal)):LS Tryz.prog nt bx (.rgn cns ops) σ Q:=jJ Uq h
theorem rd(hD:(okD fps es ops&&okF cns fps ops)=true)(h:Wo Tryz.prog tb cns fps ops σ (λσ'=>LS Tryz.prog nt bx y σ' Q)):LS Tryz.prog nt bx (.seq (.drw cns fps es ops) y) σ Q:=oM Uq mixed hD h
theorem rdk(hD:(okD fps es ops&&okF cns fps ops)=true)(h:∀K:PS->Prop,(∀σ',LS Tryz.prog nt bx y σ' Q->K σ')->Wo Tryz.prog tb cns fps ops σ K):LS Tryz.prog nt bx (.seq (.drw cns fps es ops) y) σ Q:=mO Uq mixed hD h
theorem rgd(hD:(okD fps es ops&&okF cns fps ops)=true)(h:Wo Tryz.prog tb cns fps ops σ (Q .normal)):LS Tryz.prog nt bx (.drw cns fps es ops) σ Q:=jH Uq mixed hD h
theorem st{f:Nat}{fn:Func}{base:List (Nat×Nat)}{cn:List (Nat×List Nat)}{args:List V}{r:V}(hl:Cc f bx base cn fn)(h0:(Nat.ble args.length fn.ntmps&&(args.all KX&&okR (Om 0 args)))=true)(h:LS Tryz.prog fn.ntmps bx (Ql base cn (cdF fn)) (Ce (Om 0 args)) (kB tb fn.results.toList r)):AK Tryz.prog f args r:=by
 simp only[Ab]at h0
 exact gN Uq hl (nb h0.1) h0.2.1 (qi args h0.2.2 h)
theorem rt(p:Nat)(hD:(okD fps es ops&&(okF cns fps ops&&okT p es ops))=true)(h:Wo Tryz.prog tb cns (fps.take p) (ops.take p) σ (λσ'=>Gh Tryz.prog nt bx σ' (λσ2=>Vr Tryz.prog tb cns (ops.drop p) σ2 (λσ'=>LS Tryz.prog nt bx y σ' Q)))):LS Tryz.prog nt bx (.seq (.drw cns fps es ops) y) σ Q:=Z8 (di Uq mixed p hD h)
theorem rgt(p:Nat)(hD:(okD fps es ops&&(okF cns fps ops&&okT p es ops))=true)(h:Wo Tryz.prog tb cns (fps.take p) (ops.take p) σ (λσ'=>Gh Tryz.prog nt bx σ' (λσ2=>Vr Tryz.prog tb cns (ops.drop p) σ2 (Q .normal)))):LS Tryz.prog nt bx (.drw cns fps es ops) σ Q:=di Uq mixed p hD h
theorem stp{f:Nat}{fn:Func}{base:List (Nat×Nat)}{cn:List (Nat×List Nat)}{cs args cs':List V}{r:V}(hl:Cc f bx base cn fn)(h0:(Nat.ble (args.length+1) fn.ntmps&&((bx.contains 0&&bx.contains Nk)&&(args.all KX&&(!(fn.results.toList.map I7).contains 0&&(cs'.all HR&&okR (Om 0 (.box cs::args)))))))=true)(h:LS Tryz.prog fn.ntmps bx (Ql base cn (cdF fn)) (Ce (Om 0 (.box cs::args))) (w3 tb fn.results.toList r cs')):OV Tryz.prog f cs args cs' r:=by
 simp only[Ab,AC]at h0
 exact nl Uq hl (nb h0.1) (by rw[Ab];exact h0.2.1) h0.2.2.1 h0.2.2.2.1 h0.2.2.2.2.1 (qi _ h0.2.2.2.2.2 h)
theorem stl{f:Nat}{fn:Func}{base:List (Nat×Nat)}{cn:List (Nat×List Nat)}{os args args' os':List V}{rb:Bool}(hl:Cc f bx base cn fn)(h0:(Nat.ble (os.length+args.length) fn.ntmps&&(jy bx os.length&&(os.all Ss&&(os'.all V.Di&&okR (Om 0 (os++args'))))))=true)(ha:args.all Hl=true)(he:args.map He=args')(hd:Ez os=true)(hd':Ez os'=true)(h:LS Tryz.prog fn.ntmps bx (Ql base cn (cdF fn)) (Ce (Om 0 (os++args'))) (wY tb fn.results.toList os.length os' (.bool rb))):Mv Tryz.prog f [] os args os' (.bool rb):=by
 subst he
 rw[Ab,Ab,Ab,Ab]at h0
 exact jw Uq hl (nb h0.1) h0.2.1 ha hd h0.2.2.1 hd' h0.2.2.2.1 (qi _ h0.2.2.2.2 h)
theorem yD{f:Nat}{fn:Func}{base:List (Nat×Nat)}{cn:List (Nat×List Nat)}{os args args' os':List V}{r:V}(hl:Cc f bx base cn fn)(h0:(Nat.ble (args.length+os.length) fn.ntmps&&(jz bx args.length os.length&&(os.all Ss&&(os'.all V.Di&&okR (Om 0 (args'++os))))))=true)(ha:args.all Hl=true)(he:args.map He=args')(hfl:flt r=true)(hd:Ez os=true)(hd':Ez os'=true)(h:LS Tryz.prog fn.ntmps bx (Ql base cn (cdF fn)) (Ce (Om 0 (args'++os))) (oU tb fn.results.toList args.length os.length os' r)):Mv Tryz.prog f args os [] os' r:=by
 subst he
 rw[Ab,Ab,Ab,Ab]at h0
 exact fY Uq hl (nb h0.1) h0.2.1 hfl ha hd h0.2.2.1 hd' h0.2.2.2.1 (qi _ h0.2.2.2.2 h)
theorem stv{f:Nat}{fn:Func}{base:List (Nat×Nat)}{cn:List (Nat×List Nat)}{us:List Value}{css css':List (List V)}{args:List V}{r:V}(hl:Cc f bx base cn fn)(h0:(Nat.ble (args.length+css.length) fn.ntmps&&(Nat.ble fn.ntmps 910000&&(tq bx args.length css.length&&(args.all KX&&okR (UH args.length us (Om 0 (args++css.map V.box)))))))=true)(hrp:r=.tup []∨HR r=true)(h:LS Tryz.prog fn.ntmps bx (Ql base cn (cdF fn)) (Ce (UH args.length us (Om 0 (args++css.map V.box)))) (w4 tb fn.results.toList args.length css.length css' r)):QT Tryz.prog f us css args css' r:=by
 rw[Ab,Ab,Ab,Ab]at h0
 exact n6 Uq hl (nb h0.1) (nb h0.2.1) h0.2.2.1 h0.2.2.2.1 hrp (qiv (by have:=nb h0.1;have:=nb h0.2.1;rw[Ar,As];omega) h0.2.2.2.2 h)
theorem stn{f t:Nat}{fn:Func}{base:List (Nat×Nat)}{cn:List (Nat×List Nat)}{args cs:List V}(hl:Cc f bx base cn fn)(hr:fn.results.toList=[.tmp t])(h0:(Nat.ble args.length fn.ntmps&&(args.all KX&&(cs.all HR&&okR (Om 0 args))))=true)(h:LS Tryz.prog fn.ntmps bx (Ql base cn (cdF fn)) (Ce (Om 0 args)) (wZ t cs)):NewAt Tryz.prog f args cs:=by
 rw[Ab,Ab,Ab]at h0
 unfold Cc at hl
 rw[hr]at hl
 exact mX hl (nb h0.1) h0.2.1 h0.2.2.1 (qi args h0.2.2.2 h)
theorem sta{f:Nat}{fn:Func}{base:List (Nat×Nat)}{cn:List (Nat×List Nat)}{args args':List V}{r:V}(hl:Cc f bx base cn fn)(h0:(Nat.ble args.length fn.ntmps&&okR (Om 0 args'))=true)(ha:args.all Hl=true)(he:args.map He=args')(hr:d4 r=true)(h:LS Tryz.prog fn.ntmps bx (Ql base cn (cdF fn)) (Ce (Om 0 args')) (kB tb fn.results.toList r)):AK Tryz.prog f args r:=by
 subst he
 simp only[Ab]at h0
 exact dy Uq hl (nb h0.1) ha hr (qi _ h0.2 h)
end
end Go.Proofs.YtplejokflpkcbaaGreatDoor
