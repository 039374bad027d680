/- The program's types. No conditions. -/
import Derived.Test.YtdmpnamllcigdaaGreatDoorKe
import Derived.Test.YtdmpnamllcigdaaGreatDoorProg
open Go.RowKit
set_option linter.all false
namespace Go.Proofs.YtdmpnamllcigdaaGreatDoor
set_option maxRecDepth 100000
abbrev Bf:=MI Tryz.prog
def AmW:N8 Tryz.prog 2 (.sc<|.int .i64 0):=Wh .i64 kh kh
def AmX:N8 Tryz.prog 3 (.sc<|.int .i64 0):=Wh .i64 kh kh
def AmY:N8 Tryz.prog 4 (.sc<|.bool false):=u6 kh kh
def AmZ:N8 Tryz.prog 5 (.sc<|.int .u8 0):=Wh .u8 kh kh
def Am0:N8 Tryz.prog 9 (.sc<|.str []):=zV kh kh
def Aje:N8 Tryz.prog 12 (.sc<|.int .u64 0):=Wh .u64 kh kh
def Ajf:N8 Tryz.prog 21 (.sc<|.int .i32 0):=Wh .i32 kh kh
def Ajg:N8 Tryz.prog 22 (.sl 5 1 1 [.int .u8 0]):=RX (zv:=.int .u8 0) kh kh kh (Cv (KB .u8) F9) rfl oJ oJ oJ
def Ajh:N8 Tryz.prog 24 (.sl 123 3 48 [.str [],.int .i64 0,.own 28 0 []]):=RX (zv:=.agg #[.string ⟨#[]⟩,.int .i64 0,.slice none 0 0]) kh kh kh (Cv VI<|Cv (KB .i64)<|Cv (F8 28) F9) rfl oJ oJ oJ
def Aji:N8 Tryz.prog 26 (.st 1 [.own 123 0 []] [(0,1)]):=NA (us:=[.slice none 0 0]) kh (Cv (F8 123) F9) Tryz.underlying26 kh oJ kh
def Ajj:N8 Tryz.prog 27 (.sl 83 2 40 [.str [],.own 3 0 []]):=RX (zv:=.agg #[.string ⟨#[]⟩,.slice none 0 0]) kh kh kh (Cv VI<|Cv (F8 3) F9) rfl oJ oJ oJ
def Ajk:N8 Tryz.prog 28 (.sl 3 1 8 [.int .i64 0]):=RX (zv:=.int .i64 0) kh kh kh (Cv (KB .i64) F9) rfl oJ oJ oJ
def Ajl:N8 Tryz.prog 30 (.st 3 [.int .i64 0,.own 83 0 [],.own 3 0 []] [(0,1),(1,1),(2,1)]):=NA (us:=[.int .i64 0,.slice none 0 0,.slice none 0 0]) kh (Cv (KB .i64)<|Cv (F8 83)<|Cv (F8 3) F9) Tryz.underlying30 kh oJ kh
def Ajm:N8 Tryz.prog 32 (.st 1 [.own 3 0 []] [(0,1)]):=NA (us:=[.slice none 0 0]) kh (Cv (F8 3) F9) Tryz.underlying32 kh oJ kh
def Ajn:N8 Tryz.prog 33 (.sl 28 1 24 [.own 3 0 []]):=RX (zv:=.slice none 0 0) kh kh kh (Cv (F8 3) F9) rfl oJ oJ oJ
def Ajo:N8 Tryz.prog 35 (.st 2 [.own 28 0 [],.own 3 0 []] [(0,1),(1,1)]):=NA (us:=[.slice none 0 0,.slice none 0 0]) kh (Cv (F8 28)<|Cv (F8 3) F9) Tryz.underlying35 kh oJ kh
def Ajp:N8 Tryz.prog 37 (.st 5 [.int .i64 0,.own 3 0 [],.own 3 0 [],.own 28 0 [],.own 3 0 []] [(0,1),(1,1),(2,1),(3,2)]):=NA (us:=[.int .i64 0,.slice none 0 0,.slice none 0 0,.slice none 0 0,.slice none 0 0]) kh (Cv (KB .i64)<|Cv (F8 3)<|Cv (F8 3)<|Cv (F8 28)<|Cv (F8 3) F9) Tryz.underlying37 kh oJ kh
def Ajq:N8 Tryz.prog 41 (.st 2 [.int .i64 0,.own 28 0 []] [(0,1),(1,1)]):=NA (us:=[.int .i64 0,.slice none 0 0]) kh (Cv (KB .i64)<|Cv (F8 28) F9) Tryz.underlying41 kh oJ kh
def Ajr:N8 Tryz.prog 54 (.sl 181 3 48 [.str [],.int .i64 0,.own 28 0 []]):=RX (zv:=.agg #[.string ⟨#[]⟩,.int .i64 0,.slice none 0 0]) kh kh kh (Cv VI<|Cv (KB .i64)<|Cv (F8 28) F9) rfl oJ oJ oJ
def Ajs:N8 Tryz.prog 56 (.st 1 [.own 181 0 []] [(0,1)]):=NA (us:=[.slice none 0 0]) kh (Cv (F8 181) F9) Tryz.underlying56 kh oJ kh
def Ajt:N8 Tryz.prog 57 (.sl 183 2 40 [.str [],.own 3 0 []]):=RX (zv:=.agg #[.string ⟨#[]⟩,.slice none 0 0]) kh kh kh (Cv VI<|Cv (F8 3) F9) rfl oJ oJ oJ
def Aju:N8 Tryz.prog 59 (.st 3 [.int .i64 0,.own 183 0 [],.own 3 0 []] [(0,1),(1,1),(2,1)]):=NA (us:=[.int .i64 0,.slice none 0 0,.slice none 0 0]) kh (Cv (KB .i64)<|Cv (F8 183)<|Cv (F8 3) F9) Tryz.underlying59 kh oJ kh
def Ajv:N8 Tryz.prog 83 (.st 2 [.str [],.own 3 0 []] [(0,1),(1,1)]):=NA (us:=[.string ⟨#[]⟩,.slice none 0 0]) kh (Cv VI<|Cv (F8 3) F9) Tryz.underlying83 kh oJ kh
def Ajw:N8 Tryz.prog 93 (.st 2 [.int .i64 0,.int .i64 0] [(0,1),(1,1)]):=NA (us:=[.int .i64 0,.int .i64 0]) kh (Cv (KB .i64)<|Cv (KB .i64) F9) Tryz.underlying93 kh oJ kh
def Ajx:N8 Tryz.prog 96 (.sl 93 2 16 [.int .i64 0,.int .i64 0]):=RX (zv:=.agg #[.int .i64 0,.int .i64 0]) kh kh kh (Cv (KB .i64)<|Cv (KB .i64) F9) rfl oJ oJ oJ
def AdS:N8 Tryz.prog 118 (.st 3 [.own 5 0 [],.int .i64 0,.int .i64 0] [(0,1),(1,1),(2,1)]):=NA (us:=[.slice none 0 0,.int .i64 0,.int .i64 0]) kh (Cv (F8 5)<|Cv (KB .i64)<|Cv (KB .i64) F9) Tryz.underlying118 kh oJ kh
def AdT:N8 Tryz.prog 120 (.sl 9 1 16 [.str []]):=RX (zv:=.string ⟨#[]⟩) kh kh kh (Cv VI F9) rfl oJ oJ oJ
def AdU:N8 Tryz.prog 123 (.st 3 [.str [],.int .i64 0,.own 28 0 []] [(0,1),(1,2)]):=NA (us:=[.string ⟨#[]⟩,.int .i64 0,.slice none 0 0]) kh (Cv VI<|Cv (KB .i64)<|Cv (F8 28) F9) Tryz.underlying123 kh oJ kh
def AdV:N8 Tryz.prog 131 (.sl 137 3 56 [.own 3 0 [],.int .i64 0,.own 28 0 []]):=RX (zv:=.agg #[.slice none 0 0,.int .i64 0,.slice none 0 0]) kh kh kh (Cv (F8 3)<|Cv (KB .i64)<|Cv (F8 28) F9) rfl oJ oJ oJ
def AdW:N8 Tryz.prog 137 (.st 3 [.own 3 0 [],.int .i64 0,.own 28 0 []] [(0,1),(1,2)]):=NA (us:=[.slice none 0 0,.int .i64 0,.slice none 0 0]) kh (Cv (F8 3)<|Cv (KB .i64)<|Cv (F8 28) F9) Tryz.underlying137 kh oJ kh
def AdX:N8 Tryz.prog 157 (.sl 4 1 1 [.bool false]):=RX (zv:=.bool false) kh kh kh (Cv (tP) F9) rfl oJ oJ oJ
def AdY:N8 Tryz.prog 165 (.sl 96 1 24 [.own 93 0 []]):=RX (zv:=.slice none 0 0) kh kh kh (Cv (F8 93) F9) rfl oJ oJ oJ
def AdZ:N8 Tryz.prog 167 (.st 3 [.own 96 0 [],.own 93 0 [],.own 93 0 []] [(0,1),(1,1),(2,1)]):=NA (us:=[.slice none 0 0,.slice none 0 0,.slice none 0 0]) kh (Cv (F8 96)<|Cv (F8 93)<|Cv (F8 93) F9) Tryz.underlying167 kh oJ kh
def Ad0:N8 Tryz.prog 179 (.st 2 [.int .i64 0,.own 28 0 []] [(0,1),(1,1)]):=NA (us:=[.int .i64 0,.slice none 0 0]) kh (Cv (KB .i64)<|Cv (F8 28) F9) Tryz.underlying179 kh oJ kh
def Ad1:N8 Tryz.prog 181 (.st 3 [.str [],.int .i64 0,.own 28 0 []] [(0,1),(1,2)]):=NA (us:=[.string ⟨#[]⟩,.int .i64 0,.slice none 0 0]) kh (Cv VI<|Cv (KB .i64)<|Cv (F8 28) F9) Tryz.underlying181 kh oJ kh
def Ad2:N8 Tryz.prog 183 (.st 2 [.str [],.own 3 0 []] [(0,1),(1,1)]):=NA (us:=[.string ⟨#[]⟩,.slice none 0 0]) kh (Cv VI<|Cv (F8 3) F9) Tryz.underlying183 kh oJ kh
def Ad3:N8 Tryz.prog 203 (.sl 226 2 32 [.int .i64 0,.own 28 0 []]):=RX (zv:=.agg #[.int .i64 0,.slice none 0 0]) kh kh kh (Cv (KB .i64)<|Cv (F8 28) F9) rfl oJ oJ oJ
def Ad4:N8 Tryz.prog 222 (.sc<|.int .u64 0):=Wh .u64 kh kh
def Ad5:N8 Tryz.prog 226 (.st 2 [.int .i64 0,.own 28 0 []] [(0,1),(1,1)]):=NA (us:=[.int .i64 0,.slice none 0 0]) kh (Cv (KB .i64)<|Cv (F8 28) F9) Tryz.underlying226 kh oJ kh
def Ad6:N8 Tryz.prog 249 (.sc<|.tok .nilFunc):=Ad8 kh kh
def Ad7:N8 Tryz.prog 273 (.sc<|.int .u32 0):=Wh .u32 kh kh
def tb:Tb:=λt=>match t with
 |2=>some<|.sc<|.int .i64 0
 |3=>some<|.sc<|.int .i64 0
 |4=>some<|.sc<|.bool false
 |5=>some<|.sc<|.int .u8 0
 |9=>some<|.sc<|.str []
 |12=>some<|.sc<|.int .u64 0
 |21=>some<|.sc<|.int .i32 0
 |22=>some<|.sl 5 1 1 [.int .u8 0]
 |24=>some<|.sl 123 3 48 [.str [],.int .i64 0,.own 28 0 []]
 |26=>some<|.st 1 [.own 123 0 []] [(0,1)]
 |27=>some<|.sl 83 2 40 [.str [],.own 3 0 []]
 |28=>some<|.sl 3 1 8 [.int .i64 0]
 |30=>some<|.st 3 [.int .i64 0,.own 83 0 [],.own 3 0 []] [(0,1),(1,1),(2,1)]
 |32=>some<|.st 1 [.own 3 0 []] [(0,1)]
 |33=>some<|.sl 28 1 24 [.own 3 0 []]
 |35=>some<|.st 2 [.own 28 0 [],.own 3 0 []] [(0,1),(1,1)]
 |37=>some<|.st 5 [.int .i64 0,.own 3 0 [],.own 3 0 [],.own 28 0 [],.own 3 0 []] [(0,1),(1,1),(2,1),(3,2)]
 |41=>some<|.st 2 [.int .i64 0,.own 28 0 []] [(0,1),(1,1)]
 |54=>some<|.sl 181 3 48 [.str [],.int .i64 0,.own 28 0 []]
 |56=>some<|.st 1 [.own 181 0 []] [(0,1)]
 |57=>some<|.sl 183 2 40 [.str [],.own 3 0 []]
 |59=>some<|.st 3 [.int .i64 0,.own 183 0 [],.own 3 0 []] [(0,1),(1,1),(2,1)]
 |83=>some<|.st 2 [.str [],.own 3 0 []] [(0,1),(1,1)]
 |93=>some<|.st 2 [.int .i64 0,.int .i64 0] [(0,1),(1,1)]
 |96=>some<|.sl 93 2 16 [.int .i64 0,.int .i64 0]
 |118=>some<|.st 3 [.own 5 0 [],.int .i64 0,.int .i64 0] [(0,1),(1,1),(2,1)]
 |120=>some<|.sl 9 1 16 [.str []]
 |123=>some<|.st 3 [.str [],.int .i64 0,.own 28 0 []] [(0,1),(1,2)]
 |131=>some<|.sl 137 3 56 [.own 3 0 [],.int .i64 0,.own 28 0 []]
 |137=>some<|.st 3 [.own 3 0 [],.int .i64 0,.own 28 0 []] [(0,1),(1,2)]
 |157=>some<|.sl 4 1 1 [.bool false]
 |165=>some<|.sl 96 1 24 [.own 93 0 []]
 |167=>some<|.st 3 [.own 96 0 [],.own 93 0 [],.own 93 0 []] [(0,1),(1,1),(2,1)]
 |179=>some<|.st 2 [.int .i64 0,.own 28 0 []] [(0,1),(1,1)]
 |181=>some<|.st 3 [.str [],.int .i64 0,.own 28 0 []] [(0,1),(1,2)]
 |183=>some<|.st 2 [.str [],.own 3 0 []] [(0,1),(1,1)]
 |203=>some<|.sl 226 2 32 [.int .i64 0,.own 28 0 []]
 |222=>some<|.sc<|.int .u64 0
 |226=>some<|.st 2 [.int .i64 0,.own 28 0 []] [(0,1),(1,1)]
 |249=>some<|.sc<|.tok .nilFunc
 |273=>some<|.sc<|.int .u32 0
 |_=>none
def aV:LB Tryz.prog tb:=by
 intro t d h;unfold tb at h;split at h
 ·injection h with h;subst h;exact AmW
 ·injection h with h;subst h;exact AmX
 ·injection h with h;subst h;exact AmY
 ·injection h with h;subst h;exact AmZ
 ·injection h with h;subst h;exact Am0
 ·injection h with h;subst h;exact Aje
 ·injection h with h;subst h;exact Ajf
 ·injection h with h;subst h;exact Ajg
 ·injection h with h;subst h;exact Ajh
 ·injection h with h;subst h;exact Aji
 ·injection h with h;subst h;exact Ajj
 ·injection h with h;subst h;exact Ajk
 ·injection h with h;subst h;exact Ajl
 ·injection h with h;subst h;exact Ajm
 ·injection h with h;subst h;exact Ajn
 ·injection h with h;subst h;exact Ajo
 ·injection h with h;subst h;exact Ajp
 ·injection h with h;subst h;exact Ajq
 ·injection h with h;subst h;exact Ajr
 ·injection h with h;subst h;exact Ajs
 ·injection h with h;subst h;exact Ajt
 ·injection h with h;subst h;exact Aju
 ·injection h with h;subst h;exact Ajv
 ·injection h with h;subst h;exact Ajw
 ·injection h with h;subst h;exact Ajx
 ·injection h with h;subst h;exact AdS
 ·injection h with h;subst h;exact AdT
 ·injection h with h;subst h;exact AdU
 ·injection h with h;subst h;exact AdV
 ·injection h with h;subst h;exact AdW
 ·injection h with h;subst h;exact AdX
 ·injection h with h;subst h;exact AdY
 ·injection h with h;subst h;exact AdZ
 ·injection h with h;subst h;exact Ad0
 ·injection h with h;subst h;exact Ad1
 ·injection h with h;subst h;exact Ad2
 ·injection h with h;subst h;exact Ad3
 ·injection h with h;subst h;exact Ad4
 ·injection h with h;subst h;exact Ad5
 ·injection h with h;subst h;exact Ad6
 ·injection h with h;subst h;exact Ad7
 ·cases h
def mixed:Tryz.prog.follows .mixedOrders=true:=kh
abbrev B7(f:Nat)(bx:zN)(base:List (Nat×Nat))(b:List (Nat×zN))(a:Func):Prop:=Lit Tryz.prog f a.ntmps bx a.results.toList<|Vy base b<|cdF a
section
variable {nt:Nat}{bx cns:zN}{Q:Exit->PS->Prop}{l l' y:LC}{L L':PL}{σ:PS}{ops:List LO}{fps:List (zN×zN)}{es:List zN}
def rn(n:Nat)(h:yN tb n l L=some (l',L'))(k:LS Tryz.prog nt bx l' (Cz L') Q):LS Tryz.prog nt bx l (Cz L) Q:=tg aV h k
def GC{x y}(e:yN tb 1 x L=some (l',L'))(h:∀{K:PS->Prop},(∀σ',LS Tryz.prog nt bx y σ' Q->K σ')->LS Tryz.prog nt bx l' (Cz L') (X4 K Q)):LS Tryz.prog nt bx (.seq x y) (Cz L) Q:=Ar λ_ a=>rn 1 e<|h a
def rs(h:bh Tryz.prog tb cns ops σ (λσ'=>LS Tryz.prog nt bx y σ' Q)):LS Tryz.prog nt bx (.seq (.rgn cns ops) y) σ Q:=xF aV h
def rsB{α:Type}(f:α->List V)(l:List α)(e:TypeId)(es:Nat){L:PL}{s d t:TypeId}{n:Nat}{ps:Array (Nat×Operand)}{a:List LO}(h:bsO tb L s n ps.toList=some (e,es,L,l.flatMap f))(b:l.length=n)(c:∀x,(f x).length=es)(k:bh Tryz.prog tb cns a (Cz<|(d,.own e l.length<|l.flatMap f)::L) (λσ'=>LS Tryz.prog nt bx y σ' Q)):LS Tryz.prog nt bx (.seq (.rgn cns<|⟨some d,.buildSlice s n ps,t,none⟩::a) y) (Cz L) Q:=rs<|qBk f l e es h b c k
def rk(h:∀K:PS->Prop,(∀σ',LS Tryz.prog nt bx y σ' Q->K σ')->bh Tryz.prog tb cns ops σ K):LS Tryz.prog nt bx (.seq (.rgn cns ops) y) σ Q:=Abi aV h
def rg(h:bh Tryz.prog tb cns ops σ (Q .normal)):LS Tryz.prog nt bx (.rgn cns ops) σ Q:=xE aV h
def rd(a:(okD fps es ops&&okF cns fps ops)=true)(h:cX Tryz.prog tb cns fps ops σ (λσ'=>LS Tryz.prog nt bx y σ' Q)):LS Tryz.prog nt bx (.seq (.drw cns fps es ops) y) σ Q:=Adm aV mixed a h
def rdk(a:(okD fps es ops&&okF cns fps ops)=true)(h:∀K:PS->Prop,(∀σ',LS Tryz.prog nt bx y σ' Q->K σ')->cX Tryz.prog tb cns fps ops σ K):LS Tryz.prog nt bx (.seq (.drw cns fps es ops) y) σ Q:=Abh aV mixed a h
def jG(a:(okD fps es ops&&okF cns fps ops)=true)(h:cX Tryz.prog tb cns fps ops σ (Q .normal)):LS Tryz.prog nt bx (.drw cns fps es ops) σ Q:=xA aV mixed a h
def st{f fn base cn args r}(b:B7 f bx base cn fn)(a:(Nat.ble args.length fn.ntmps&&(args.all Pz&&okR (TJ 0 args)))=true)(h:LS Tryz.prog fn.ntmps bx (Vy base cn<|cdF fn) (Cz<|TJ 0 args) (yK tb fn.results.toList r)):MI Tryz.prog f args r:=by simp only[Ab]at a;exact uP aV b (nb a.1) a.2.1<|qi args a.2.2 h
def rt(p:Nat)(a:(okD fps es ops&&(okF cns fps ops&&okT p es ops))=true)(h:cX Tryz.prog tb cns (fps.take p) (ops.take p) σ (λσ'=>Gh Tryz.prog nt bx σ'<|λσ2=>bh Tryz.prog tb cns (ops.drop p) σ2<|λσ'=>LS Tryz.prog nt bx y σ' Q)):LS Tryz.prog nt bx (.seq (.drw cns fps es ops) y) σ Q:=lb<|pG aV mixed p a h
def rgt(p:Nat)(a:(okD fps es ops&&(okF cns fps ops&&okT p es ops))=true)(h:cX Tryz.prog tb cns (fps.take p) (ops.take p) σ (λσ'=>Gh Tryz.prog nt bx σ'<|λσ2=>bh Tryz.prog tb cns (ops.drop p) σ2<|Q .normal)):LS Tryz.prog nt bx (.drw cns fps es ops) σ Q:=pG aV mixed p a h
def stp{f fn base cn cs args cs' r}(b:B7 f bx base cn fn)(a:(Nat.ble (args.length+1) fn.ntmps&&((bx.contains 0&&bx.contains SQ)&&(args.all Pz&&(!(fn.results.toList.map MZ).contains 0&&(cs'.all KA&&okR (TJ 0<|.box cs::args))))))=true)(h:LS Tryz.prog fn.ntmps bx (Vy base cn<|cdF fn) (Cz<|TJ 0<|.box cs::args) (Al6 tb fn.results.toList r cs')):Ob Tryz.prog f cs args cs' r:=by simp only[Ab,At]at a;exact AbT aV b (nb a.1) (by rw[Ab];exact a.2.1) a.2.2.1 a.2.2.2.1 a.2.2.2.2.1<|qi _ a.2.2.2.2.2 h
def stl{f fn base cn os args args' os' rb}(c:B7 f bx base cn fn)(a:(Nat.ble (os.length+args.length) fn.ntmps&&(xo bx os.length&&(os.all fL&&(os'.all V.D3&&okR (TJ 0<|os++args')))))=true)(d:args.all Na=true)(e:args.map QK=args')(g:GK os=true)(b:GK os'=true)(h:LS Tryz.prog fn.ntmps bx (Vy base cn<|cdF fn) (Cz<|TJ 0<|os++args') (Al4 tb fn.results.toList os.length os'<|.bool rb)):We Tryz.prog f [] os args os' (.bool rb):=by subst e;rw[Ab,Ab,Ab,Ab]at a;exact xn aV c (nb a.1) a.2.1 d g a.2.2.1 b a.2.2.2.1<|qi _ a.2.2.2.2 h
def stv{f fn base cn us css css' args r}(c:B7 f bx base cn fn)(a:(Nat.ble (args.length+css.length) fn.ntmps&&(Nat.ble fn.ntmps 910000&&(AiS bx args.length css.length&&(args.all Pz&&okR (aa args.length us<|TJ 0<|args++css.map V.box)))))=true)(b:r=.tup []∨KA r=true)(h:LS Tryz.prog fn.ntmps bx (Vy base cn<|cdF fn) (Cz<|aa args.length us<|TJ 0<|args++css.map V.box) (Al7 tb fn.results.toList args.length css.length css' r)):VL Tryz.prog f us css args css' r:=by rw[Ab,Ab,Ab,Ab]at a;exact AcK aV c (nb a.1) (nb a.2.1) a.2.2.1 a.2.2.2.1 b<|qiv (by have:=nb a.1;have:=nb a.2.1;rw[An,Ai];omega) a.2.2.2.2 h
def stn{f t:Nat}{b:Func}{base:List (Nat×Nat)}{e:List (Nat×zN)}{a cs:List V}(d:B7 f bx base e b)(g:b.results.toList=[.tmp t])(c:(Nat.ble a.length b.ntmps&&(a.all Pz&&(cs.all KA&&okR (TJ 0 a))))=true)(h:LS Tryz.prog b.ntmps bx (Vy base e<|cdF b) (Cz<|TJ 0 a) (Al5 t cs)):NewAt Tryz.prog f a cs:=by rw[Ab,Ab,Ab]at c;unfold B7 at d;rw[g]at d;exact Abt d (nb c.1) c.2.1 c.2.2.1<|qi a c.2.2.2 h
def sta{f fn base cn args args' r}(b:B7 f bx base cn fn)(a:(Nat.ble args.length fn.ntmps&&okR (TJ 0 args'))=true)(c:args.all Na=true)(d:args.map QK=args')(e:rq r=true)(h:LS Tryz.prog fn.ntmps bx (Vy base cn<|cdF fn) (Cz<|TJ 0 args') (yK tb fn.results.toList r)):MI Tryz.prog f args r:=by subst d;simp only[Ab]at a;exact qf aV b (nb a.1) c e<|qi _ a.2 h
end
end Go.Proofs.YtdmpnamllcigdaaGreatDoor
