/-
 The pure machine's table of this program's types, printed by gentab.py, and that it is so. No conditions.
-/
import Derived.Test.YtckmdkajoiegmaaGreatDoorKe
import Derived.Test.YtckmdkajoiegmaaGreatDoorProg
open Go.RowKit
set_option linter.unusedVariables false
set_option linter.unusedSimpArgs false
namespace Go.Proofs.YtckmdkajoiegmaaGreatDoor
set_option maxRecDepth 100000
theorem yB:KL Tryz.prog 2 (.sc (.int .i64 0)):=Sd .i64 (by kernel_rfl) (by kernel_rfl)
theorem yC:KL Tryz.prog 3 (.sc (.int .i64 0)):=Sd .i64 (by kernel_rfl) (by kernel_rfl)
theorem yD:KL Tryz.prog 4 (.sc (.bool false)):=iJ (by kernel_rfl) (by kernel_rfl)
theorem yE:KL Tryz.prog 5 (.sc (.int .u8 0)):=Sd .u8 (by kernel_rfl) (by kernel_rfl)
theorem yF:KL Tryz.prog 9 (.sc (.str [])):=mz (by kernel_rfl) (by kernel_rfl)
theorem u9:KL Tryz.prog 12 (.sc (.int .u64 0)):=Sd .u64 (by kernel_rfl) (by kernel_rfl)
theorem va:KL Tryz.prog 21 (.sc (.int .i32 0)):=Sd .i32 (by kernel_rfl) (by kernel_rfl)
theorem vb:KL Tryz.prog 22 (.sl 101 2 40 [.str [],.own 3 0 []]):=OG (zv:=.agg #[.string ⟨#[]⟩,.slice none 0 0]) (by kernel_rfl) (by kernel_rfl) (by kernel_rfl) (B9 (QW) (B9 (EI 3) (EV))) rfl (by decide) (by decide) (by decide)
theorem vd:KL Tryz.prog 23 (.sl 3 1 8 [.int .i64 0]):=OG (zv:=.int .i64 0) (by kernel_rfl) (by kernel_rfl) (by kernel_rfl) (B9 (IY .i64) (EV)) rfl (by decide) (by decide) (by decide)
theorem ve:KL Tryz.prog 25 (.st 3 [.int .i64 0,.own 101 0 [],.own 3 0 []] [(0,1),(1,1),(2,1)]):=JF (us:=[.int .i64 0,.slice none 0 0,.slice none 0 0]) (by kernel_rfl) (B9 (IY .i64) (B9 (EI 101) (B9 (EI 3) (EV)))) Tryz.underlying25 (by kernel_rfl) (by decide) (by kernel_rfl)
theorem vf:KL Tryz.prog 28 (.st 1 [.own 3 0 []] [(0,1)]):=JF (us:=[.slice none 0 0]) (by kernel_rfl) (B9 (EI 3) (EV)) Tryz.underlying28 (by kernel_rfl) (by decide) (by kernel_rfl)
theorem vg:KL Tryz.prog 29 (.sl 23 1 24 [.own 3 0 []]):=OG (zv:=.slice none 0 0) (by kernel_rfl) (by kernel_rfl) (by kernel_rfl) (B9 (EI 3) (EV)) rfl (by decide) (by decide) (by decide)
theorem vi:KL Tryz.prog 31 (.st 2 [.own 23 0 [],.own 3 0 []] [(0,1),(1,1)]):=JF (us:=[.slice none 0 0,.slice none 0 0]) (by kernel_rfl) (B9 (EI 23) (B9 (EI 3) (EV))) Tryz.underlying31 (by kernel_rfl) (by decide) (by kernel_rfl)
theorem vj:KL Tryz.prog 33 (.st 5 [.int .i64 0,.own 3 0 [],.own 3 0 [],.own 23 0 [],.own 3 0 []] [(0,1),(1,1),(2,1),(3,2)]):=JF (us:=[.int .i64 0,.slice none 0 0,.slice none 0 0,.slice none 0 0,.slice none 0 0]) (by kernel_rfl) (B9 (IY .i64) (B9 (EI 3) (B9 (EI 3) (B9 (EI 23) (B9 (EI 3) (EV)))))) Tryz.underlying33 (by kernel_rfl) (by decide) (by kernel_rfl)
theorem vk:KL Tryz.prog 36 (.sl 104 2 40 [.str [],.own 3 0 []]):=OG (zv:=.agg #[.string ⟨#[]⟩,.slice none 0 0]) (by kernel_rfl) (by kernel_rfl) (by kernel_rfl) (B9 (QW) (B9 (EI 3) (EV))) rfl (by decide) (by decide) (by decide)
theorem vm:KL Tryz.prog 38 (.st 3 [.int .i64 0,.own 104 0 [],.own 3 0 []] [(0,1),(1,1),(2,1)]):=JF (us:=[.int .i64 0,.slice none 0 0,.slice none 0 0]) (by kernel_rfl) (B9 (IY .i64) (B9 (EI 104) (B9 (EI 3) (EV)))) Tryz.underlying38 (by kernel_rfl) (by decide) (by kernel_rfl)
theorem vn:KL Tryz.prog 48 (.sl 139 3 48 [.str [],.int .i64 0,.own 23 0 []]):=OG (zv:=.agg #[.string ⟨#[]⟩,.int .i64 0,.slice none 0 0]) (by kernel_rfl) (by kernel_rfl) (by kernel_rfl) (B9 (QW) (B9 (IY .i64) (B9 (EI 23) (EV)))) rfl (by decide) (by decide) (by decide)
theorem vo:KL Tryz.prog 50 (.st 1 [.own 139 0 []] [(0,1)]):=JF (us:=[.slice none 0 0]) (by kernel_rfl) (B9 (EI 139) (EV)) Tryz.underlying50 (by kernel_rfl) (by decide) (by kernel_rfl)
theorem vp:KL Tryz.prog 52 (.sl 71 2 16 [.int .i64 0,.int .i64 0]):=OG (zv:=.agg #[.int .i64 0,.int .i64 0]) (by kernel_rfl) (by kernel_rfl) (by kernel_rfl) (B9 (IY .i64) (B9 (IY .i64) (EV))) rfl (by decide) (by decide) (by decide)
theorem vq:KL Tryz.prog 54 (.st 5 [.own 3 0 [],.own 71 0 [],.own 3 0 [],.int .i64 0,.int .i64 0] [(0,1),(1,1),(2,1),(3,1),(4,1)]):=JF (us:=[.slice none 0 0,.slice none 0 0,.slice none 0 0,.int .i64 0,.int .i64 0]) (by kernel_rfl) (B9 (EI 3) (B9 (EI 71) (B9 (EI 3) (B9 (IY .i64) (B9 (IY .i64) (EV)))))) Tryz.underlying54 (by kernel_rfl) (by decide) (by kernel_rfl)
theorem vr:KL Tryz.prog 57 (.sl 154 3 48 [.str [],.int .i64 0,.own 23 0 []]):=OG (zv:=.agg #[.string ⟨#[]⟩,.int .i64 0,.slice none 0 0]) (by kernel_rfl) (by kernel_rfl) (by kernel_rfl) (B9 (QW) (B9 (IY .i64) (B9 (EI 23) (EV)))) rfl (by decide) (by decide) (by decide)
theorem vt:KL Tryz.prog 59 (.st 1 [.own 154 0 []] [(0,1)]):=JF (us:=[.slice none 0 0]) (by kernel_rfl) (B9 (EI 154) (EV)) Tryz.underlying59 (by kernel_rfl) (by decide) (by kernel_rfl)
theorem vu:KL Tryz.prog 71 (.st 2 [.int .i64 0,.int .i64 0] [(0,1),(1,1)]):=JF (us:=[.int .i64 0,.int .i64 0]) (by kernel_rfl) (B9 (IY .i64) (B9 (IY .i64) (EV))) Tryz.underlying71 (by kernel_rfl) (by decide) (by kernel_rfl)
theorem vv:KL Tryz.prog 87 (.st 2 [.int .i64 0,.own 23 0 []] [(0,1),(1,1)]):=JF (us:=[.int .i64 0,.slice none 0 0]) (by kernel_rfl) (B9 (IY .i64) (B9 (EI 23) (EV))) Tryz.underlying87 (by kernel_rfl) (by decide) (by kernel_rfl)
theorem qp:KL Tryz.prog 101 (.st 2 [.str [],.own 3 0 []] [(0,1),(1,1)]):=JF (us:=[.string ⟨#[]⟩,.slice none 0 0]) (by kernel_rfl) (B9 (QW) (B9 (EI 3) (EV))) Tryz.underlying101 (by kernel_rfl) (by decide) (by kernel_rfl)
theorem qq:KL Tryz.prog 104 (.st 2 [.str [],.own 3 0 []] [(0,1),(1,1)]):=JF (us:=[.string ⟨#[]⟩,.slice none 0 0]) (by kernel_rfl) (B9 (QW) (B9 (EI 3) (EV))) Tryz.underlying104 (by kernel_rfl) (by decide) (by kernel_rfl)
theorem qr:KL Tryz.prog 113 (.sl 52 1 24 [.own 71 0 []]):=OG (zv:=.slice none 0 0) (by kernel_rfl) (by kernel_rfl) (by kernel_rfl) (B9 (EI 71) (EV)) rfl (by decide) (by decide) (by decide)
theorem qt:KL Tryz.prog 115 (.st 3 [.own 52 0 [],.own 71 0 [],.own 71 0 []] [(0,1),(1,1),(2,1)]):=JF (us:=[.slice none 0 0,.slice none 0 0,.slice none 0 0]) (by kernel_rfl) (B9 (EI 52) (B9 (EI 71) (B9 (EI 71) (EV)))) Tryz.underlying115 (by kernel_rfl) (by decide) (by kernel_rfl)
theorem qu:KL Tryz.prog 124 (.sl 4 1 1 [.bool false]):=OG (zv:=.bool false) (by kernel_rfl) (by kernel_rfl) (by kernel_rfl) (B9 (gm) (EV)) rfl (by decide) (by decide) (by decide)
theorem qv:KL Tryz.prog 137 (.st 2 [.int .i64 0,.own 23 0 []] [(0,1),(1,1)]):=JF (us:=[.int .i64 0,.slice none 0 0]) (by kernel_rfl) (B9 (IY .i64) (B9 (EI 23) (EV))) Tryz.underlying137 (by kernel_rfl) (by decide) (by kernel_rfl)
theorem qw:KL Tryz.prog 139 (.st 3 [.str [],.int .i64 0,.own 23 0 []] [(0,1),(1,2)]):=JF (us:=[.string ⟨#[]⟩,.int .i64 0,.slice none 0 0]) (by kernel_rfl) (B9 (QW) (B9 (IY .i64) (B9 (EI 23) (EV)))) Tryz.underlying139 (by kernel_rfl) (by decide) (by kernel_rfl)
theorem qx:KL Tryz.prog 140 (.sl 178 2 32 [.int .i64 0,.own 23 0 []]):=OG (zv:=.agg #[.int .i64 0,.slice none 0 0]) (by kernel_rfl) (by kernel_rfl) (by kernel_rfl) (B9 (IY .i64) (B9 (EI 23) (EV))) rfl (by decide) (by decide) (by decide)
theorem qy:KL Tryz.prog 154 (.st 3 [.str [],.int .i64 0,.own 23 0 []] [(0,1),(1,2)]):=JF (us:=[.string ⟨#[]⟩,.int .i64 0,.slice none 0 0]) (by kernel_rfl) (B9 (QW) (B9 (IY .i64) (B9 (EI 23) (EV)))) Tryz.underlying154 (by kernel_rfl) (by decide) (by kernel_rfl)
theorem qz:KL Tryz.prog 176 (.sl 5 1 1 [.int .u8 0]):=OG (zv:=.int .u8 0) (by kernel_rfl) (by kernel_rfl) (by kernel_rfl) (B9 (IY .u8) (EV)) rfl (by decide) (by decide) (by decide)
theorem qD:KL Tryz.prog 178 (.st 2 [.int .i64 0,.own 23 0 []] [(0,1),(1,1)]):=JF (us:=[.int .i64 0,.slice none 0 0]) (by kernel_rfl) (B9 (IY .i64) (B9 (EI 23) (EV))) Tryz.underlying178 (by kernel_rfl) (by decide) (by kernel_rfl)
theorem qE:KL Tryz.prog 193 (.st 1 [.own 3 0 []] [(0,1)]):=JF (us:=[.slice none 0 0]) (by kernel_rfl) (B9 (EI 3) (EV)) Tryz.underlying193 (by kernel_rfl) (by decide) (by kernel_rfl)
theorem qG:KL Tryz.prog 219 (.sc (.tok .nilFunc)):=qJ (by kernel_rfl) (by kernel_rfl)
theorem qH:KL Tryz.prog 237 (.sc (.int .u32 0)):=Sd .u32 (by kernel_rfl) (by kernel_rfl)
def tb:Tb:=λt=>match t with
 |2=>some (.sc (.int .i64 0))
 |3=>some (.sc (.int .i64 0))
 |4=>some (.sc (.bool false))
 |5=>some (.sc (.int .u8 0))
 |9=>some (.sc (.str []))
 |12=>some (.sc (.int .u64 0))
 |21=>some (.sc (.int .i32 0))
 |22=>some (.sl 101 2 40 [.str [],.own 3 0 []])
 |23=>some (.sl 3 1 8 [.int .i64 0])
 |25=>some (.st 3 [.int .i64 0,.own 101 0 [],.own 3 0 []] [(0,1),(1,1),(2,1)])
 |28=>some (.st 1 [.own 3 0 []] [(0,1)])
 |29=>some (.sl 23 1 24 [.own 3 0 []])
 |31=>some (.st 2 [.own 23 0 [],.own 3 0 []] [(0,1),(1,1)])
 |33=>some (.st 5 [.int .i64 0,.own 3 0 [],.own 3 0 [],.own 23 0 [],.own 3 0 []] [(0,1),(1,1),(2,1),(3,2)])
 |36=>some (.sl 104 2 40 [.str [],.own 3 0 []])
 |38=>some (.st 3 [.int .i64 0,.own 104 0 [],.own 3 0 []] [(0,1),(1,1),(2,1)])
 |48=>some (.sl 139 3 48 [.str [],.int .i64 0,.own 23 0 []])
 |50=>some (.st 1 [.own 139 0 []] [(0,1)])
 |52=>some (.sl 71 2 16 [.int .i64 0,.int .i64 0])
 |54=>some (.st 5 [.own 3 0 [],.own 71 0 [],.own 3 0 [],.int .i64 0,.int .i64 0] [(0,1),(1,1),(2,1),(3,1),(4,1)])
 |57=>some (.sl 154 3 48 [.str [],.int .i64 0,.own 23 0 []])
 |59=>some (.st 1 [.own 154 0 []] [(0,1)])
 |71=>some (.st 2 [.int .i64 0,.int .i64 0] [(0,1),(1,1)])
 |87=>some (.st 2 [.int .i64 0,.own 23 0 []] [(0,1),(1,1)])
 |101=>some (.st 2 [.str [],.own 3 0 []] [(0,1),(1,1)])
 |104=>some (.st 2 [.str [],.own 3 0 []] [(0,1),(1,1)])
 |113=>some (.sl 52 1 24 [.own 71 0 []])
 |115=>some (.st 3 [.own 52 0 [],.own 71 0 [],.own 71 0 []] [(0,1),(1,1),(2,1)])
 |124=>some (.sl 4 1 1 [.bool false])
 |137=>some (.st 2 [.int .i64 0,.own 23 0 []] [(0,1),(1,1)])
 |139=>some (.st 3 [.str [],.int .i64 0,.own 23 0 []] [(0,1),(1,2)])
 |140=>some (.sl 178 2 32 [.int .i64 0,.own 23 0 []])
 |154=>some (.st 3 [.str [],.int .i64 0,.own 23 0 []] [(0,1),(1,2)])
 |176=>some (.sl 5 1 1 [.int .u8 0])
 |178=>some (.st 2 [.int .i64 0,.own 23 0 []] [(0,1),(1,1)])
 |193=>some (.st 1 [.own 3 0 []] [(0,1)])
 |219=>some (.sc (.tok .nilFunc))
 |237=>some (.sc (.int .u32 0))
 |_=>none
theorem HL:GA Tryz.prog tb:=by
 intro t d h
 unfold tb at h
 split at h
 ·injection h with h;subst h;exact yB
 ·injection h with h;subst h;exact yC
 ·injection h with h;subst h;exact yD
 ·injection h with h;subst h;exact yE
 ·injection h with h;subst h;exact yF
 ·injection h with h;subst h;exact u9
 ·injection h with h;subst h;exact va
 ·injection h with h;subst h;exact vb
 ·injection h with h;subst h;exact vd
 ·injection h with h;subst h;exact ve
 ·injection h with h;subst h;exact vf
 ·injection h with h;subst h;exact vg
 ·injection h with h;subst h;exact vi
 ·injection h with h;subst h;exact vj
 ·injection h with h;subst h;exact vk
 ·injection h with h;subst h;exact vm
 ·injection h with h;subst h;exact vn
 ·injection h with h;subst h;exact vo
 ·injection h with h;subst h;exact vp
 ·injection h with h;subst h;exact vq
 ·injection h with h;subst h;exact vr
 ·injection h with h;subst h;exact vt
 ·injection h with h;subst h;exact vu
 ·injection h with h;subst h;exact vv
 ·injection h with h;subst h;exact qp
 ·injection h with h;subst h;exact qq
 ·injection h with h;subst h;exact qr
 ·injection h with h;subst h;exact qt
 ·injection h with h;subst h;exact qu
 ·injection h with h;subst h;exact qv
 ·injection h with h;subst h;exact qw
 ·injection h with h;subst h;exact qx
 ·injection h with h;subst h;exact qy
 ·injection h with h;subst h;exact qz
 ·injection h with h;subst h;exact qD
 ·injection h with h;subst h;exact qE
 ·injection h with h;subst h;exact qG
 ·injection h with h;subst h;exact qH
 ·cases h
theorem mixed:Tryz.prog.follows .mixedOrders=true:=by kernel_rfl
abbrev Cm(f:Nat)(bx:List Nat)(base:List (Nat×Nat))(cn:List (Nat×List Nat))(fn:Func):Prop:=Lit Tryz.prog f fn.ntmps bx fn.results.toList (Qn base cn (cdF fn))
section
variable {nt:Nat}{bx cns:List Nat}{Q:Exit->PS->Prop}{l l' y:LC}{L L':PL}{σ:PS}{ops:List LO}{fps:List (List Nat×List Nat)}{es:List (List Nat)}
theorem rn(n:Nat)(h:lE tb n l L=some (l',L'))(k:LS Tryz.prog nt bx l' (Cd L') Q):LS Tryz.prog nt bx l (Cd L) Q:=fO HL h k
theorem EZ{x y:LC}(e:lE tb 1 x L=some (l',L'))(h:∀{K:PS->Prop},(∀σ',LS Tryz.prog nt bx y σ' Q->K σ')->LS Tryz.prog nt bx l' (Cd L') (R7 K Q)):LS Tryz.prog nt bx (.seq x y) (Cd L) Q:=Ap λ_ h1=>rn 1 e (h h1)
theorem rs(h:U1 Tryz.prog tb cns ops σ (λσ'=>LS Tryz.prog nt bx y σ' Q)):LS Tryz.prog nt bx (.seq (.rgn cns ops) y) σ Q:=ku HL h
theorem rk(h:∀K:PS->Prop,(∀σ',LS Tryz.prog nt bx y σ' Q->K σ')->U1 Tryz.prog tb cns ops σ K):LS Tryz.prog nt bx (.seq (.rgn cns ops) y) σ Q:=nF HL h
theorem rg(h:U1 Tryz.prog tb cns ops σ (Q .normal)):LS Tryz.prog nt bx (.rgn cns ops) σ Q:=kt HL h
theorem rd(hD:(okD fps es ops&&okF cns fps ops)=true)(h:VK Tryz.prog tb cns fps ops σ (λσ'=>LS Tryz.prog nt bx y σ' Q)):LS Tryz.prog nt bx (.seq (.drw cns fps es ops) y) σ Q:=pQ HL mixed hD h
theorem rdk(hD:(okD fps es ops&&okF cns fps ops)=true)(h:∀K:PS->Prop,(∀σ',LS Tryz.prog nt bx y σ' Q->K σ')->VK Tryz.prog tb cns fps ops σ K):LS Tryz.prog nt bx (.seq (.drw cns fps es ops) y) σ Q:=nE HL mixed hD h
theorem rgd(hD:(okD fps es ops&&okF cns fps ops)=true)(h:VK Tryz.prog tb cns fps ops σ (Q .normal)):LS Tryz.prog nt bx (.drw cns fps es ops) σ Q:=ko HL mixed hD h
theorem st{f:Nat}{fn:Func}{base:List (Nat×Nat)}{cn:List (Nat×List Nat)}{args:List V}{r:V}(hl:Cm f bx base cn fn)(h0:(Nat.ble args.length fn.ntmps&&(args.all NZ&&okR (Pq 0 args)))=true)(h:LS Tryz.prog fn.ntmps bx (Qn base cn (cdF fn)) (Cd (Pq 0 args)) (lA tb fn.results.toList r)):AI Tryz.prog f args r:=by
 simp only[Ab]at h0
 exact iz HL hl (nb h0.1) h0.2.1 (qi args h0.2.2 h)
theorem rt(p:Nat)(hD:(okD fps es ops&&(okF cns fps ops&&okT p es ops))=true)(h:VK Tryz.prog tb cns (fps.take p) (ops.take p) σ (λσ'=>Gh Tryz.prog nt bx σ' (λσ2=>U1 Tryz.prog tb cns (ops.drop p) σ2 (λσ'=>LS Tryz.prog nt bx y σ' Q)))):LS Tryz.prog nt bx (.seq (.drw cns fps es ops) y) σ Q:=Xz (dz HL mixed p hD h)
theorem rgt(p:Nat)(hD:(okD fps es ops&&(okF cns fps ops&&okT p es ops))=true)(h:VK Tryz.prog tb cns (fps.take p) (ops.take p) σ (λσ'=>Gh Tryz.prog nt bx σ' (λσ2=>U1 Tryz.prog tb cns (ops.drop p) σ2 (Q .normal)))):LS Tryz.prog nt bx (.drw cns fps es ops) σ Q:=dz HL mixed p hD h
theorem stl{f:Nat}{fn:Func}{base:List (Nat×Nat)}{cn:List (Nat×List Nat)}{os args args' os':List V}{rb:Bool}(hl:Cm f bx base cn fn)(h0:(Nat.ble (os.length+args.length) fn.ntmps&&(j6 bx os.length&&(os.all RN&&(os'.all V.C5&&okR (Pq 0 (os++args'))))))=true)(ha:args.all Hc=true)(he:args.map G5=args')(hd:Ca os=true)(hd':Ca os'=true)(h:LS Tryz.prog fn.ntmps bx (Qn base cn (cdF fn)) (Cd (Pq 0 (os++args'))) (xN tb fn.results.toList os.length os' (.bool rb))):LJ Tryz.prog f [] os args os' (.bool rb):=by
 subst he
 rw[Ab,Ab,Ab,Ab]at h0
 exact j4 HL hl (nb h0.1) h0.2.1 ha hd h0.2.2.1 hd' h0.2.2.2.1 (qi _ h0.2.2.2.2 h)
theorem zm{f:Nat}{fn:Func}{base:List (Nat×Nat)}{cn:List (Nat×List Nat)}{os args args' os':List V}{r:V}(hl:Cm f bx base cn fn)(h0:(Nat.ble (args.length+os.length) fn.ntmps&&(j7 bx args.length os.length&&(os.all RN&&(os'.all V.C5&&okR (Pq 0 (args'++os))))))=true)(ha:args.all Hc=true)(he:args.map G5=args')(hfl:flt r=true)(hd:Ca os=true)(hd':Ca os'=true)(h:LS Tryz.prog fn.ntmps bx (Qn base cn (cdF fn)) (Cd (Pq 0 (args'++os))) (pX tb fn.results.toList args.length os.length os' r)):LJ Tryz.prog f args os [] os' r:=by
 subst he
 rw[Ab,Ab,Ab,Ab]at h0
 exact gM HL hl (nb h0.1) h0.2.1 hfl ha hd h0.2.2.1 hd' h0.2.2.2.1 (qi _ h0.2.2.2.2 h)
theorem stv{f:Nat}{fn:Func}{base:List (Nat×Nat)}{cn:List (Nat×List Nat)}{us:List Value}{css css':List (List V)}{args:List V}{r:V}(hl:Cm f bx base cn fn)(h0:(Nat.ble (args.length+css.length) fn.ntmps&&(Nat.ble fn.ntmps 910000&&(uU bx args.length css.length&&(args.all NZ&&okR (TW args.length us (Pq 0 (args++css.map V.box)))))))=true)(hrp:r=.tup []∨LZ r=true)(h:LS Tryz.prog fn.ntmps bx (Qn base cn (cdF fn)) (Cd (TW args.length us (Pq 0 (args++css.map V.box)))) (xO tb fn.results.toList args.length css.length css' r)):Qd Tryz.prog f us css args css' r:=by
 rw[Ab,Ab,Ab,Ab]at h0
 exact pg HL hl (nb h0.1) (nb h0.2.1) h0.2.2.1 h0.2.2.2.1 hrp (qiv (by have:=nb h0.1;have:=nb h0.2.1;rw[AR,Ar];omega) h0.2.2.2.2 h)
theorem sta{f:Nat}{fn:Func}{base:List (Nat×Nat)}{cn:List (Nat×List Nat)}{args args':List V}{r:V}(hl:Cm f bx base cn fn)(h0:(Nat.ble args.length fn.ntmps&&okR (Pq 0 args'))=true)(ha:args.all Hc=true)(he:args.map G5=args')(hr:eI r=true)(h:LS Tryz.prog fn.ntmps bx (Qn base cn (cdF fn)) (Cd (Pq 0 args')) (lA tb fn.results.toList r)):AI Tryz.prog f args r:=by
 subst he
 simp only[Ab]at h0
 exact dS HL hl (nb h0.1) ha hr (qi _ h0.2 h)
end
end Go.Proofs.YtckmdkajoiegmaaGreatDoor
