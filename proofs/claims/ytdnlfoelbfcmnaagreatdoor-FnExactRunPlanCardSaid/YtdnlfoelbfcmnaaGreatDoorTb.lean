/- The program's types. No conditions. -/
import Derived.Test.YtdnlfoelbfcmnaaGreatDoorKe
import Derived.Test.YtdnlfoelbfcmnaaGreatDoorProg
open Go.RowKit
set_option linter.all false
namespace Go.Proofs.YtdnlfoelbfcmnaaGreatDoor
set_option maxRecDepth 100000
abbrev AX:=LQ Tryz.prog
def Aj9:Ng Tryz.prog 2 (.sc<|.int .i64 0):=WY .i64 (by kernel_rfl) (by kernel_rfl)
def Aka:Ng Tryz.prog 3 (.sc<|.int .i64 0):=WY .i64 (by kernel_rfl) (by kernel_rfl)
def Akb:Ng Tryz.prog 4 (.sc<|.bool false):=tJ (by kernel_rfl) (by kernel_rfl)
def Akc:Ng Tryz.prog 5 (.sc<|.int .u8 0):=WY .u8 (by kernel_rfl) (by kernel_rfl)
def Akd:Ng Tryz.prog 9 (.sc<|.str []):=xQ (by kernel_rfl) (by kernel_rfl)
def AgD:Ng Tryz.prog 12 (.sc<|.int .u64 0):=WY .u64 (by kernel_rfl) (by kernel_rfl)
def AgE:Ng Tryz.prog 21 (.sc<|.int .i32 0):=WY .i32 (by kernel_rfl) (by kernel_rfl)
def AgF:Ng Tryz.prog 22 (.sl 94 3 48 [.str [],.int .i64 0,.own 26 0 []]):=RX (zv:=.agg #[.string ⟨#[]⟩,.int .i64 0,.slice none 0 0]) (by kernel_rfl) (by kernel_rfl) (by kernel_rfl) (Cc VH<|Cc (KQ .i64)<|Cc (EB 26) Ff) rfl (by decide) (by decide) (by decide)
def AgG:Ng Tryz.prog 24 (.st 1 [.own 94 0 []] [(0,1)]):=Le (us:=[.slice none 0 0]) (by kernel_rfl) (Cc (EB 94) Ff) Tryz.underlying24 (by kernel_rfl) (by decide) (by kernel_rfl)
def AgH:Ng Tryz.prog 25 (.sl 97 2 40 [.str [],.own 3 0 []]):=RX (zv:=.agg #[.string ⟨#[]⟩,.slice none 0 0]) (by kernel_rfl) (by kernel_rfl) (by kernel_rfl) (Cc VH<|Cc (EB 3) Ff) rfl (by decide) (by decide) (by decide)
def AgI:Ng Tryz.prog 26 (.sl 3 1 8 [.int .i64 0]):=RX (zv:=.int .i64 0) (by kernel_rfl) (by kernel_rfl) (by kernel_rfl) (Cc (KQ .i64) Ff) rfl (by decide) (by decide) (by decide)
def AgJ:Ng Tryz.prog 28 (.st 3 [.int .i64 0,.own 97 0 [],.own 3 0 []] [(0,1),(1,1),(2,1)]):=Le (us:=[.int .i64 0,.slice none 0 0,.slice none 0 0]) (by kernel_rfl) (Cc (KQ .i64)<|Cc (EB 97)<|Cc (EB 3) Ff) Tryz.underlying28 (by kernel_rfl) (by decide) (by kernel_rfl)
def AgK:Ng Tryz.prog 30 (.st 1 [.own 3 0 []] [(0,1)]):=Le (us:=[.slice none 0 0]) (by kernel_rfl) (Cc (EB 3) Ff) Tryz.underlying30 (by kernel_rfl) (by decide) (by kernel_rfl)
def AgL:Ng Tryz.prog 31 (.sl 26 1 24 [.own 3 0 []]):=RX (zv:=.slice none 0 0) (by kernel_rfl) (by kernel_rfl) (by kernel_rfl) (Cc (EB 3) Ff) rfl (by decide) (by decide) (by decide)
def AgM:Ng Tryz.prog 33 (.st 2 [.own 26 0 [],.own 3 0 []] [(0,1),(1,1)]):=Le (us:=[.slice none 0 0,.slice none 0 0]) (by kernel_rfl) (Cc (EB 26)<|Cc (EB 3) Ff) Tryz.underlying33 (by kernel_rfl) (by decide) (by kernel_rfl)
def AgN:Ng Tryz.prog 35 (.st 5 [.int .i64 0,.own 3 0 [],.own 3 0 [],.own 26 0 [],.own 3 0 []] [(0,1),(1,1),(2,1),(3,2)]):=Le (us:=[.int .i64 0,.slice none 0 0,.slice none 0 0,.slice none 0 0,.slice none 0 0]) (by kernel_rfl) (Cc (KQ .i64)<|Cc (EB 3)<|Cc (EB 3)<|Cc (EB 26)<|Cc (EB 3) Ff) Tryz.underlying35 (by kernel_rfl) (by decide) (by kernel_rfl)
def AgO:Ng Tryz.prog 40 (.st 2 [.int .i64 0,.own 26 0 []] [(0,1),(1,1)]):=Le (us:=[.int .i64 0,.slice none 0 0]) (by kernel_rfl) (Cc (KQ .i64)<|Cc (EB 26) Ff) Tryz.underlying40 (by kernel_rfl) (by decide) (by kernel_rfl)
def AgP:Ng Tryz.prog 43 (.sl 119 3 48 [.str [],.int .i64 0,.own 26 0 []]):=RX (zv:=.agg #[.string ⟨#[]⟩,.int .i64 0,.slice none 0 0]) (by kernel_rfl) (by kernel_rfl) (by kernel_rfl) (Cc VH<|Cc (KQ .i64)<|Cc (EB 26) Ff) rfl (by decide) (by decide) (by decide)
def AgQ:Ng Tryz.prog 45 (.st 1 [.own 119 0 []] [(0,1)]):=Le (us:=[.slice none 0 0]) (by kernel_rfl) (Cc (EB 119) Ff) Tryz.underlying45 (by kernel_rfl) (by decide) (by kernel_rfl)
def AgR:Ng Tryz.prog 47 (.sl 102 2 40 [.str [],.own 3 0 []]):=RX (zv:=.agg #[.string ⟨#[]⟩,.slice none 0 0]) (by kernel_rfl) (by kernel_rfl) (by kernel_rfl) (Cc VH<|Cc (EB 3) Ff) rfl (by decide) (by decide) (by decide)
def AgS:Ng Tryz.prog 49 (.st 3 [.int .i64 0,.own 102 0 [],.own 3 0 []] [(0,1),(1,1),(2,1)]):=Le (us:=[.int .i64 0,.slice none 0 0,.slice none 0 0]) (by kernel_rfl) (Cc (KQ .i64)<|Cc (EB 102)<|Cc (EB 3) Ff) Tryz.underlying49 (by kernel_rfl) (by decide) (by kernel_rfl)
def AgT:Ng Tryz.prog 51 (.st 1 [.own 3 0 []] [(0,1)]):=Le (us:=[.slice none 0 0]) (by kernel_rfl) (Cc (EB 3) Ff) Tryz.underlying51 (by kernel_rfl) (by decide) (by kernel_rfl)
def AgU:Ng Tryz.prog 52 (.st 2 [.own 26 0 [],.own 3 0 []] [(0,1),(1,1)]):=Le (us:=[.slice none 0 0,.slice none 0 0]) (by kernel_rfl) (Cc (EB 26)<|Cc (EB 3) Ff) Tryz.underlying52 (by kernel_rfl) (by decide) (by kernel_rfl)
def AgV:Ng Tryz.prog 54 (.st 5 [.int .i64 0,.own 3 0 [],.own 3 0 [],.own 26 0 [],.own 3 0 []] [(0,1),(1,1),(2,1),(3,2)]):=Le (us:=[.int .i64 0,.slice none 0 0,.slice none 0 0,.slice none 0 0,.slice none 0 0]) (by kernel_rfl) (Cc (KQ .i64)<|Cc (EB 3)<|Cc (EB 3)<|Cc (EB 26)<|Cc (EB 3) Ff) Tryz.underlying54 (by kernel_rfl) (by decide) (by kernel_rfl)
def AgW:Ng Tryz.prog 92 (.st 2 [.int .i64 0,.own 26 0 []] [(0,1),(1,1)]):=Le (us:=[.int .i64 0,.slice none 0 0]) (by kernel_rfl) (Cc (KQ .i64)<|Cc (EB 26) Ff) Tryz.underlying92 (by kernel_rfl) (by decide) (by kernel_rfl)
def AgX:Ng Tryz.prog 94 (.st 3 [.str [],.int .i64 0,.own 26 0 []] [(0,1),(1,2)]):=Le (us:=[.string ⟨#[]⟩,.int .i64 0,.slice none 0 0]) (by kernel_rfl) (Cc VH<|Cc (KQ .i64)<|Cc (EB 26) Ff) Tryz.underlying94 (by kernel_rfl) (by decide) (by kernel_rfl)
def AgY:Ng Tryz.prog 97 (.st 2 [.str [],.own 3 0 []] [(0,1),(1,1)]):=Le (us:=[.string ⟨#[]⟩,.slice none 0 0]) (by kernel_rfl) (Cc VH<|Cc (EB 3) Ff) Tryz.underlying97 (by kernel_rfl) (by decide) (by kernel_rfl)
def Ab1:Ng Tryz.prog 102 (.st 2 [.str [],.own 3 0 []] [(0,1),(1,1)]):=Le (us:=[.string ⟨#[]⟩,.slice none 0 0]) (by kernel_rfl) (Cc VH<|Cc (EB 3) Ff) Tryz.underlying102 (by kernel_rfl) (by decide) (by kernel_rfl)
def Ab2:Ng Tryz.prog 105 (.sl 111 3 56 [.own 3 0 [],.int .i64 0,.own 26 0 []]):=RX (zv:=.agg #[.slice none 0 0,.int .i64 0,.slice none 0 0]) (by kernel_rfl) (by kernel_rfl) (by kernel_rfl) (Cc (EB 3)<|Cc (KQ .i64)<|Cc (EB 26) Ff) rfl (by decide) (by decide) (by decide)
def Ab3:Ng Tryz.prog 111 (.st 3 [.own 3 0 [],.int .i64 0,.own 26 0 []] [(0,1),(1,2)]):=Le (us:=[.slice none 0 0,.int .i64 0,.slice none 0 0]) (by kernel_rfl) (Cc (EB 3)<|Cc (KQ .i64)<|Cc (EB 26) Ff) Tryz.underlying111 (by kernel_rfl) (by decide) (by kernel_rfl)
def Ab4:Ng Tryz.prog 119 (.st 3 [.str [],.int .i64 0,.own 26 0 []] [(0,1),(1,2)]):=Le (us:=[.string ⟨#[]⟩,.int .i64 0,.slice none 0 0]) (by kernel_rfl) (Cc VH<|Cc (KQ .i64)<|Cc (EB 26) Ff) Tryz.underlying119 (by kernel_rfl) (by decide) (by kernel_rfl)
def Ab5:Ng Tryz.prog 146 (.sl 163 2 32 [.int .i64 0,.own 26 0 []]):=RX (zv:=.agg #[.int .i64 0,.slice none 0 0]) (by kernel_rfl) (by kernel_rfl) (by kernel_rfl) (Cc (KQ .i64)<|Cc (EB 26) Ff) rfl (by decide) (by decide) (by decide)
def Ab6:Ng Tryz.prog 160 (.sl 5 1 1 [.int .u8 0]):=RX (zv:=.int .u8 0) (by kernel_rfl) (by kernel_rfl) (by kernel_rfl) (Cc (KQ .u8) Ff) rfl (by decide) (by decide) (by decide)
def Ab7:Ng Tryz.prog 163 (.st 2 [.int .i64 0,.own 26 0 []] [(0,1),(1,1)]):=Le (us:=[.int .i64 0,.slice none 0 0]) (by kernel_rfl) (Cc (KQ .i64)<|Cc (EB 26) Ff) Tryz.underlying163 (by kernel_rfl) (by decide) (by kernel_rfl)
def Ab8:Ng Tryz.prog 172 (.st 2 [.int .i64 0,.int .i64 0] [(0,1),(1,1)]):=Le (us:=[.int .i64 0,.int .i64 0]) (by kernel_rfl) (Cc (KQ .i64)<|Cc (KQ .i64) Ff) Tryz.underlying172 (by kernel_rfl) (by decide) (by kernel_rfl)
def Ab9:Ng Tryz.prog 185 (.sl 4 1 1 [.bool false]):=RX (zv:=.bool false) (by kernel_rfl) (by kernel_rfl) (by kernel_rfl) (Cc (rQ) Ff) rfl (by decide) (by decide) (by decide)
def Aca:Ng Tryz.prog 186 (.sl 172 2 16 [.int .i64 0,.int .i64 0]):=RX (zv:=.agg #[.int .i64 0,.int .i64 0]) (by kernel_rfl) (by kernel_rfl) (by kernel_rfl) (Cc (KQ .i64)<|Cc (KQ .i64) Ff) rfl (by decide) (by decide) (by decide)
def Acb:Ng Tryz.prog 189 (.sl 186 1 24 [.own 172 0 []]):=RX (zv:=.slice none 0 0) (by kernel_rfl) (by kernel_rfl) (by kernel_rfl) (Cc (EB 172) Ff) rfl (by decide) (by decide) (by decide)
def Acd:Ng Tryz.prog 191 (.st 3 [.own 186 0 [],.own 172 0 [],.own 172 0 []] [(0,1),(1,1),(2,1)]):=Le (us:=[.slice none 0 0,.slice none 0 0,.slice none 0 0]) (by kernel_rfl) (Cc (EB 186)<|Cc (EB 172)<|Cc (EB 172) Ff) Tryz.underlying191 (by kernel_rfl) (by decide) (by kernel_rfl)
def Ace:Ng Tryz.prog 208 (.sc<|.tok .nilFunc):=Acg (by kernel_rfl) (by kernel_rfl)
def Acf:Ng Tryz.prog 225 (.sc<|.int .u32 0):=WY .u32 (by kernel_rfl) (by kernel_rfl)
def tb:Tb:=λt=>match t with
 |2=>some<|.sc<|.int .i64 0
 |3=>some<|.sc<|.int .i64 0
 |4=>some<|.sc<|.bool false
 |5=>some<|.sc<|.int .u8 0
 |9=>some<|.sc<|.str []
 |12=>some<|.sc<|.int .u64 0
 |21=>some<|.sc<|.int .i32 0
 |22=>some<|.sl 94 3 48 [.str [],.int .i64 0,.own 26 0 []]
 |24=>some<|.st 1 [.own 94 0 []] [(0,1)]
 |25=>some<|.sl 97 2 40 [.str [],.own 3 0 []]
 |26=>some<|.sl 3 1 8 [.int .i64 0]
 |28=>some<|.st 3 [.int .i64 0,.own 97 0 [],.own 3 0 []] [(0,1),(1,1),(2,1)]
 |30=>some<|.st 1 [.own 3 0 []] [(0,1)]
 |31=>some<|.sl 26 1 24 [.own 3 0 []]
 |33=>some<|.st 2 [.own 26 0 [],.own 3 0 []] [(0,1),(1,1)]
 |35=>some<|.st 5 [.int .i64 0,.own 3 0 [],.own 3 0 [],.own 26 0 [],.own 3 0 []] [(0,1),(1,1),(2,1),(3,2)]
 |40=>some<|.st 2 [.int .i64 0,.own 26 0 []] [(0,1),(1,1)]
 |43=>some<|.sl 119 3 48 [.str [],.int .i64 0,.own 26 0 []]
 |45=>some<|.st 1 [.own 119 0 []] [(0,1)]
 |47=>some<|.sl 102 2 40 [.str [],.own 3 0 []]
 |49=>some<|.st 3 [.int .i64 0,.own 102 0 [],.own 3 0 []] [(0,1),(1,1),(2,1)]
 |51=>some<|.st 1 [.own 3 0 []] [(0,1)]
 |52=>some<|.st 2 [.own 26 0 [],.own 3 0 []] [(0,1),(1,1)]
 |54=>some<|.st 5 [.int .i64 0,.own 3 0 [],.own 3 0 [],.own 26 0 [],.own 3 0 []] [(0,1),(1,1),(2,1),(3,2)]
 |92=>some<|.st 2 [.int .i64 0,.own 26 0 []] [(0,1),(1,1)]
 |94=>some<|.st 3 [.str [],.int .i64 0,.own 26 0 []] [(0,1),(1,2)]
 |97=>some<|.st 2 [.str [],.own 3 0 []] [(0,1),(1,1)]
 |102=>some<|.st 2 [.str [],.own 3 0 []] [(0,1),(1,1)]
 |105=>some<|.sl 111 3 56 [.own 3 0 [],.int .i64 0,.own 26 0 []]
 |111=>some<|.st 3 [.own 3 0 [],.int .i64 0,.own 26 0 []] [(0,1),(1,2)]
 |119=>some<|.st 3 [.str [],.int .i64 0,.own 26 0 []] [(0,1),(1,2)]
 |146=>some<|.sl 163 2 32 [.int .i64 0,.own 26 0 []]
 |160=>some<|.sl 5 1 1 [.int .u8 0]
 |163=>some<|.st 2 [.int .i64 0,.own 26 0 []] [(0,1),(1,1)]
 |172=>some<|.st 2 [.int .i64 0,.int .i64 0] [(0,1),(1,1)]
 |185=>some<|.sl 4 1 1 [.bool false]
 |186=>some<|.sl 172 2 16 [.int .i64 0,.int .i64 0]
 |189=>some<|.sl 186 1 24 [.own 172 0 []]
 |191=>some<|.st 3 [.own 186 0 [],.own 172 0 [],.own 172 0 []] [(0,1),(1,1),(2,1)]
 |208=>some<|.sc<|.tok .nilFunc
 |225=>some<|.sc<|.int .u32 0
 |_=>none
def GK:Jr Tryz.prog tb:=by
 intro t d h;unfold tb at h;split at h
 ·injection h with h;subst h;exact Aj9
 ·injection h with h;subst h;exact Aka
 ·injection h with h;subst h;exact Akb
 ·injection h with h;subst h;exact Akc
 ·injection h with h;subst h;exact Akd
 ·injection h with h;subst h;exact AgD
 ·injection h with h;subst h;exact AgE
 ·injection h with h;subst h;exact AgF
 ·injection h with h;subst h;exact AgG
 ·injection h with h;subst h;exact AgH
 ·injection h with h;subst h;exact AgI
 ·injection h with h;subst h;exact AgJ
 ·injection h with h;subst h;exact AgK
 ·injection h with h;subst h;exact AgL
 ·injection h with h;subst h;exact AgM
 ·injection h with h;subst h;exact AgN
 ·injection h with h;subst h;exact AgO
 ·injection h with h;subst h;exact AgP
 ·injection h with h;subst h;exact AgQ
 ·injection h with h;subst h;exact AgR
 ·injection h with h;subst h;exact AgS
 ·injection h with h;subst h;exact AgT
 ·injection h with h;subst h;exact AgU
 ·injection h with h;subst h;exact AgV
 ·injection h with h;subst h;exact AgW
 ·injection h with h;subst h;exact AgX
 ·injection h with h;subst h;exact AgY
 ·injection h with h;subst h;exact Ab1
 ·injection h with h;subst h;exact Ab2
 ·injection h with h;subst h;exact Ab3
 ·injection h with h;subst h;exact Ab4
 ·injection h with h;subst h;exact Ab5
 ·injection h with h;subst h;exact Ab6
 ·injection h with h;subst h;exact Ab7
 ·injection h with h;subst h;exact Ab8
 ·injection h with h;subst h;exact Ab9
 ·injection h with h;subst h;exact Aca
 ·injection h with h;subst h;exact Acb
 ·injection h with h;subst h;exact Acd
 ·injection h with h;subst h;exact Ace
 ·injection h with h;subst h;exact Acf
 ·cases h
def mixed:Tryz.prog.follows .mixedOrders=true:=by kernel_rfl
abbrev BW(f:Nat)(bx:zN)(base:List (Nat×Nat))(b:List (Nat×zN))(a:Func):Prop:=Lit Tryz.prog f a.ntmps bx a.results.toList<|Vp base b<|cdF a
section
variable {nt:Nat}{bx cns:zN}{Q:Exit->PS->Prop}{l l' y:LC}{L L':PL}{σ:PS}{ops:List LO}{fps:List (zN×zN)}{es:List zN}
def rn(n:Nat)(h:wP tb n l L=some (l',L'))(k:LS Tryz.prog nt bx l' (CP L') Q):LS Tryz.prog nt bx l (CP L) Q:=rm GK h k
def Ee{x y}(e:wP tb 1 x L=some (l',L'))(h:∀{K:PS->Prop},(∀σ',LS Tryz.prog nt bx y σ' Q->K σ')->LS Tryz.prog nt bx l' (CP L') (WP K Q)):LS Tryz.prog nt bx (.seq x y) (CP L) Q:=Ao λ_ a=>rn 1 e<|h a
def rs(h:bo Tryz.prog tb cns ops σ (λσ'=>LS Tryz.prog nt bx y σ' Q)):LS Tryz.prog nt bx (.seq (.rgn cns ops) y) σ Q:=vR GK h
def rk(h:∀K:PS->Prop,(∀σ',LS Tryz.prog nt bx y σ' Q->K σ')->bo Tryz.prog tb cns ops σ K):LS Tryz.prog nt bx (.seq (.rgn cns ops) y) σ Q:=y8 GK h
def rg(h:bo Tryz.prog tb cns ops σ (Q .normal)):LS Tryz.prog nt bx (.rgn cns ops) σ Q:=vQ GK h
def rd(a:(okD fps es ops&&okF cns fps ops)=true)(h:bm Tryz.prog tb cns fps ops σ (λσ'=>LS Tryz.prog nt bx y σ' Q)):LS Tryz.prog nt bx (.seq (.drw cns fps es ops) y) σ Q:=Abw GK mixed a h
def rdk(a:(okD fps es ops&&okF cns fps ops)=true)(h:∀K:PS->Prop,(∀σ',LS Tryz.prog nt bx y σ' Q->K σ')->bm Tryz.prog tb cns fps ops σ K):LS Tryz.prog nt bx (.seq (.drw cns fps es ops) y) σ Q:=y7 GK mixed a h
def iY(a:(okD fps es ops&&okF cns fps ops)=true)(h:bm Tryz.prog tb cns fps ops σ (Q .normal)):LS Tryz.prog nt bx (.drw cns fps es ops) σ Q:=vM GK mixed a h
def st{f fn base cn args r}(b:BW f bx base cn fn)(a:(Nat.ble args.length fn.ntmps&&(args.all Te&&okR (UI 0 args)))=true)(h:LS Tryz.prog fn.ntmps bx (Vp base cn<|cdF fn) (CP<|UI 0 args) (wM tb fn.results.toList r)):LQ Tryz.prog f args r:=by simp only[Aa]at a;exact tp GK b (nb a.1) a.2.1<|qi args a.2.2 h
def rt(p:Nat)(a:(okD fps es ops&&(okF cns fps ops&&okT p es ops))=true)(h:bm Tryz.prog tb cns (fps.take p) (ops.take p) σ (λσ'=>Gh Tryz.prog nt bx σ'<|λσ2=>bo Tryz.prog tb cns (ops.drop p) σ2<|λσ'=>LS Tryz.prog nt bx y σ' Q)):LS Tryz.prog nt bx (.seq (.drw cns fps es ops) y) σ Q:=eF<|oW GK mixed p a h
def rgt(p:Nat)(a:(okD fps es ops&&(okF cns fps ops&&okT p es ops))=true)(h:bm Tryz.prog tb cns (fps.take p) (ops.take p) σ (λσ'=>Gh Tryz.prog nt bx σ'<|λσ2=>bo Tryz.prog tb cns (ops.drop p) σ2<|Q .normal)):LS Tryz.prog nt bx (.drw cns fps es ops) σ Q:=oW GK mixed p a h
def stl{f fn base cn os args args' os' rb}(c:BW f bx base cn fn)(a:(Nat.ble (os.length+args.length) fn.ntmps&&(vy bx os.length&&(os.all d8&&(os'.all V.DB&&okR (UI 0<|os++args')))))=true)(d:args.all Ml=true)(e:args.map Px=args')(g:Cw os=true)(b:Cw os'=true)(h:LS Tryz.prog fn.ntmps bx (Vp base cn<|cdF fn) (CP<|UI 0<|os++args') (Ajv tb fn.results.toList os.length os'<|.bool rb)):UY Tryz.prog f [] os args os' (.bool rb):=by subst e;rw[Aa,Aa,Aa,Aa]at a;exact vw GK c (nb a.1) a.2.1 d g a.2.2.1 b a.2.2.2.1<|qi _ a.2.2.2.2 h
def stv{f fn base cn us css css' args r}(c:BW f bx base cn fn)(a:(Nat.ble (args.length+css.length) fn.ntmps&&(Nat.ble fn.ntmps 910000&&(Agn bx args.length css.length&&(args.all Te&&okR (YR args.length us<|UI 0<|args++css.map V.box)))))=true)(b:r=.tup []∨Pj r=true)(h:LS Tryz.prog fn.ntmps bx (Vp base cn<|cdF fn) (CP<|YR args.length us<|UI 0<|args++css.map V.box) (Ajw tb fn.results.toList args.length css.length css' r)):YD Tryz.prog f us css args css' r:=by rw[Aa,Aa,Aa,Aa]at a;exact AaP GK c (nb a.1) (nb a.2.1) a.2.2.1 a.2.2.2.1 b<|qiv (by have:=nb a.1;have:=nb a.2.1;rw[Au,Aj];omega) a.2.2.2.2 h
def sta{f fn base cn args args' r}(b:BW f bx base cn fn)(a:(Nat.ble args.length fn.ntmps&&okR (UI 0 args'))=true)(c:args.all Ml=true)(d:args.map Px=args')(e:pZ r=true)(h:LS Tryz.prog fn.ntmps bx (Vp base cn<|cdF fn) (CP<|UI 0 args') (wM tb fn.results.toList r)):LQ Tryz.prog f args r:=by subst d;simp only[Aa]at a;exact pp GK b (nb a.1) c e<|qi _ a.2 h
end
end Go.Proofs.YtdnlfoelbfcmnaaGreatDoor
