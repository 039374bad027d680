/- The program's types. No conditions. -/
import Derived.Test.YtpnoalhfjnjeaaaGreatDoorKe
import Derived.Test.YtpnoalhfjnjeaaaGreatDoorProg
open Go.RowKit
set_option linter.all false
namespace Go.Proofs.YtpnoalhfjnjeaaaGreatDoor
set_option maxRecDepth 100000
abbrev AP:=Mp Tryz.prog
def Aix:P5 Tryz.prog 2 (.sc<|.int .i64 0):=VW .i64 (by kernel_rfl) (by kernel_rfl)
def Aiy:P5 Tryz.prog 3 (.sc<|.int .i64 0):=VW .i64 (by kernel_rfl) (by kernel_rfl)
def Aiz:P5 Tryz.prog 4 (.sc<|.bool false):=su (by kernel_rfl) (by kernel_rfl)
def AiA:P5 Tryz.prog 5 (.sc<|.int .u8 0):=VW .u8 (by kernel_rfl) (by kernel_rfl)
def AiB:P5 Tryz.prog 9 (.sc<|.str []):=wF (by kernel_rfl) (by kernel_rfl)
def AeP:P5 Tryz.prog 12 (.sc<|.int .u64 0):=VW .u64 (by kernel_rfl) (by kernel_rfl)
def AeQ:P5 Tryz.prog 21 (.sc<|.int .i32 0):=VW .i32 (by kernel_rfl) (by kernel_rfl)
def AeR:P5 Tryz.prog 22 (.sl 5 1 1 [.int .u8 0]):=UQ (zv:=.int .u8 0) (by kernel_rfl) (by kernel_rfl) (by kernel_rfl) (C7 (Oo .u8) Io) rfl (by decide) (by decide) (by decide)
def AeS:P5 Tryz.prog 24 (.sl 178 3 48 [.str [],.int .i64 0,.own 28 0 []]):=UQ (zv:=.agg #[.string ⟨#[]⟩,.int .i64 0,.slice none 0 0]) (by kernel_rfl) (by kernel_rfl) (by kernel_rfl) (C7 (bL)<|C7 (Oo .i64)<|C7 (Mj 28) Io) rfl (by decide) (by decide) (by decide)
def AeT:P5 Tryz.prog 26 (.st 1 [.own 178 0 []] [(0,1)]):=TB (us:=[.slice none 0 0]) (by kernel_rfl) (C7 (Mj 178) Io) Tryz.underlying26 (by kernel_rfl) (by decide) (by kernel_rfl)
def AeU:P5 Tryz.prog 27 (.sl 90 2 40 [.str [],.own 3 0 []]):=UQ (zv:=.agg #[.string ⟨#[]⟩,.slice none 0 0]) (by kernel_rfl) (by kernel_rfl) (by kernel_rfl) (C7 (bL)<|C7 (Mj 3) Io) rfl (by decide) (by decide) (by decide)
def AeV:P5 Tryz.prog 28 (.sl 3 1 8 [.int .i64 0]):=UQ (zv:=.int .i64 0) (by kernel_rfl) (by kernel_rfl) (by kernel_rfl) (C7 (Oo .i64) Io) rfl (by decide) (by decide) (by decide)
def AeW:P5 Tryz.prog 30 (.st 3 [.int .i64 0,.own 90 0 [],.own 3 0 []] [(0,1),(1,1),(2,1)]):=TB (us:=[.int .i64 0,.slice none 0 0,.slice none 0 0]) (by kernel_rfl) (C7 (Oo .i64)<|C7 (Mj 90)<|C7 (Mj 3) Io) Tryz.underlying30 (by kernel_rfl) (by decide) (by kernel_rfl)
def AeX:P5 Tryz.prog 31 (.sl 84 2 16 [.int .i64 0,.int .i64 0]):=UQ (zv:=.agg #[.int .i64 0,.int .i64 0]) (by kernel_rfl) (by kernel_rfl) (by kernel_rfl) (C7 (Oo .i64)<|C7 (Oo .i64) Io) rfl (by decide) (by decide) (by decide)
def AeY:P5 Tryz.prog 33 (.st 5 [.own 3 0 [],.own 84 0 [],.own 3 0 [],.int .i64 0,.int .i64 0] [(0,1),(1,1),(2,1),(3,1),(4,1)]):=TB (us:=[.slice none 0 0,.slice none 0 0,.slice none 0 0,.int .i64 0,.int .i64 0]) (by kernel_rfl) (C7 (Mj 3)<|C7 (Mj 84)<|C7 (Mj 3)<|C7 (Oo .i64)<|C7 (Oo .i64) Io) Tryz.underlying33 (by kernel_rfl) (by decide) (by kernel_rfl)
def AeZ:P5 Tryz.prog 50 (.sl 28 1 24 [.own 3 0 []]):=UQ (zv:=.slice none 0 0) (by kernel_rfl) (by kernel_rfl) (by kernel_rfl) (C7 (Mj 3) Io) rfl (by decide) (by decide) (by decide)
def Ae0:P5 Tryz.prog 52 (.st 2 [.int .i64 0,.own 28 0 []] [(0,1),(1,1)]):=TB (us:=[.int .i64 0,.slice none 0 0]) (by kernel_rfl) (C7 (Oo .i64)<|C7 (Mj 28) Io) Tryz.underlying52 (by kernel_rfl) (by decide) (by kernel_rfl)
def Ae1:P5 Tryz.prog 68 (.sl 9 1 16 [.str []]):=UQ (zv:=.string ⟨#[]⟩) (by kernel_rfl) (by kernel_rfl) (by kernel_rfl) (C7 (bL) Io) rfl (by decide) (by decide) (by decide)
def Ae2:P5 Tryz.prog 84 (.st 2 [.int .i64 0,.int .i64 0] [(0,1),(1,1)]):=TB (us:=[.int .i64 0,.int .i64 0]) (by kernel_rfl) (C7 (Oo .i64)<|C7 (Oo .i64) Io) Tryz.underlying84 (by kernel_rfl) (by decide) (by kernel_rfl)
def Ae3:P5 Tryz.prog 87 (.st 3 [.own 5 0 [],.int .i64 0,.int .i64 0] [(0,1),(1,1),(2,1)]):=TB (us:=[.slice none 0 0,.int .i64 0,.int .i64 0]) (by kernel_rfl) (C7 (Mj 5)<|C7 (Oo .i64)<|C7 (Oo .i64) Io) Tryz.underlying87 (by kernel_rfl) (by decide) (by kernel_rfl)
def Ae4:P5 Tryz.prog 90 (.st 2 [.str [],.own 3 0 []] [(0,1),(1,1)]):=TB (us:=[.string ⟨#[]⟩,.slice none 0 0]) (by kernel_rfl) (C7 (bL)<|C7 (Mj 3) Io) Tryz.underlying90 (by kernel_rfl) (by decide) (by kernel_rfl)
def Ae5:P5 Tryz.prog 92 (.sl 148 2 32 [.int .i64 0,.own 28 0 []]):=UQ (zv:=.agg #[.int .i64 0,.slice none 0 0]) (by kernel_rfl) (by kernel_rfl) (by kernel_rfl) (C7 (Oo .i64)<|C7 (Mj 28) Io) rfl (by decide) (by decide) (by decide)
def Aar:P5 Tryz.prog 117 (.st 1 [.own 3 0 []] [(0,1)]):=TB (us:=[.slice none 0 0]) (by kernel_rfl) (C7 (Mj 3) Io) Tryz.underlying117 (by kernel_rfl) (by decide) (by kernel_rfl)
def Aas:P5 Tryz.prog 123 (.sl 31 1 24 [.own 84 0 []]):=UQ (zv:=.slice none 0 0) (by kernel_rfl) (by kernel_rfl) (by kernel_rfl) (C7 (Mj 84) Io) rfl (by decide) (by decide) (by decide)
def Aat:P5 Tryz.prog 125 (.st 3 [.own 31 0 [],.own 84 0 [],.own 84 0 []] [(0,1),(1,1),(2,1)]):=TB (us:=[.slice none 0 0,.slice none 0 0,.slice none 0 0]) (by kernel_rfl) (C7 (Mj 31)<|C7 (Mj 84)<|C7 (Mj 84) Io) Tryz.underlying125 (by kernel_rfl) (by decide) (by kernel_rfl)
def Aau:P5 Tryz.prog 148 (.st 2 [.int .i64 0,.own 28 0 []] [(0,1),(1,1)]):=TB (us:=[.int .i64 0,.slice none 0 0]) (by kernel_rfl) (C7 (Oo .i64)<|C7 (Mj 28) Io) Tryz.underlying148 (by kernel_rfl) (by decide) (by kernel_rfl)
def Aav:P5 Tryz.prog 159 (.sl 4 1 1 [.bool false]):=UQ (zv:=.bool false) (by kernel_rfl) (by kernel_rfl) (by kernel_rfl) (C7 (qR) Io) rfl (by decide) (by decide) (by decide)
def Aaw:P5 Tryz.prog 173 (.sc<|.int .u64 0):=VW .u64 (by kernel_rfl) (by kernel_rfl)
def Aax:P5 Tryz.prog 178 (.st 3 [.str [],.int .i64 0,.own 28 0 []] [(0,1),(1,2)]):=TB (us:=[.string ⟨#[]⟩,.int .i64 0,.slice none 0 0]) (by kernel_rfl) (C7 (bL)<|C7 (Oo .i64)<|C7 (Mj 28) Io) Tryz.underlying178 (by kernel_rfl) (by decide) (by kernel_rfl)
def Aay:P5 Tryz.prog 187 (.sc<|.tok .nilFunc):=AaA (by kernel_rfl) (by kernel_rfl)
def Aaz:P5 Tryz.prog 214 (.sc<|.int .u32 0):=VW .u32 (by kernel_rfl) (by kernel_rfl)
def tb:Tb:=λt=>match t with
 |2=>some<|.sc<|.int .i64 0
 |3=>some<|.sc<|.int .i64 0
 |4=>some<|.sc<|.bool false
 |5=>some<|.sc<|.int .u8 0
 |9=>some<|.sc<|.str []
 |12=>some<|.sc<|.int .u64 0
 |21=>some<|.sc<|.int .i32 0
 |22=>some<|.sl 5 1 1 [.int .u8 0]
 |24=>some<|.sl 178 3 48 [.str [],.int .i64 0,.own 28 0 []]
 |26=>some<|.st 1 [.own 178 0 []] [(0,1)]
 |27=>some<|.sl 90 2 40 [.str [],.own 3 0 []]
 |28=>some<|.sl 3 1 8 [.int .i64 0]
 |30=>some<|.st 3 [.int .i64 0,.own 90 0 [],.own 3 0 []] [(0,1),(1,1),(2,1)]
 |31=>some<|.sl 84 2 16 [.int .i64 0,.int .i64 0]
 |33=>some<|.st 5 [.own 3 0 [],.own 84 0 [],.own 3 0 [],.int .i64 0,.int .i64 0] [(0,1),(1,1),(2,1),(3,1),(4,1)]
 |50=>some<|.sl 28 1 24 [.own 3 0 []]
 |52=>some<|.st 2 [.int .i64 0,.own 28 0 []] [(0,1),(1,1)]
 |68=>some<|.sl 9 1 16 [.str []]
 |84=>some<|.st 2 [.int .i64 0,.int .i64 0] [(0,1),(1,1)]
 |87=>some<|.st 3 [.own 5 0 [],.int .i64 0,.int .i64 0] [(0,1),(1,1),(2,1)]
 |90=>some<|.st 2 [.str [],.own 3 0 []] [(0,1),(1,1)]
 |92=>some<|.sl 148 2 32 [.int .i64 0,.own 28 0 []]
 |117=>some<|.st 1 [.own 3 0 []] [(0,1)]
 |123=>some<|.sl 31 1 24 [.own 84 0 []]
 |125=>some<|.st 3 [.own 31 0 [],.own 84 0 [],.own 84 0 []] [(0,1),(1,1),(2,1)]
 |148=>some<|.st 2 [.int .i64 0,.own 28 0 []] [(0,1),(1,1)]
 |159=>some<|.sl 4 1 1 [.bool false]
 |173=>some<|.sc<|.int .u64 0
 |178=>some<|.st 3 [.str [],.int .i64 0,.own 28 0 []] [(0,1),(1,2)]
 |187=>some<|.sc<|.tok .nilFunc
 |214=>some<|.sc<|.int .u32 0
 |_=>none
def ab:Lr Tryz.prog tb:=by
 intro t d h;unfold tb at h;split at h
 ·injection h with h;subst h;exact Aix
 ·injection h with h;subst h;exact Aiy
 ·injection h with h;subst h;exact Aiz
 ·injection h with h;subst h;exact AiA
 ·injection h with h;subst h;exact AiB
 ·injection h with h;subst h;exact AeP
 ·injection h with h;subst h;exact AeQ
 ·injection h with h;subst h;exact AeR
 ·injection h with h;subst h;exact AeS
 ·injection h with h;subst h;exact AeT
 ·injection h with h;subst h;exact AeU
 ·injection h with h;subst h;exact AeV
 ·injection h with h;subst h;exact AeW
 ·injection h with h;subst h;exact AeX
 ·injection h with h;subst h;exact AeY
 ·injection h with h;subst h;exact AeZ
 ·injection h with h;subst h;exact Ae0
 ·injection h with h;subst h;exact Ae1
 ·injection h with h;subst h;exact Ae2
 ·injection h with h;subst h;exact Ae3
 ·injection h with h;subst h;exact Ae4
 ·injection h with h;subst h;exact Ae5
 ·injection h with h;subst h;exact Aar
 ·injection h with h;subst h;exact Aas
 ·injection h with h;subst h;exact Aat
 ·injection h with h;subst h;exact Aau
 ·injection h with h;subst h;exact Aav
 ·injection h with h;subst h;exact Aaw
 ·injection h with h;subst h;exact Aax
 ·injection h with h;subst h;exact Aay
 ·injection h with h;subst h;exact Aaz
 ·cases h
def mixed:Tryz.prog.follows .mixedOrders=true:=by kernel_rfl
abbrev BE(f:Nat)(bx:zN)(base:List (Nat×Nat))(b:List (Nat×zN))(a:Func):Prop:=Lit Tryz.prog f a.ntmps bx a.results.toList<|U0 base b<|cdF a
section
variable {nt:Nat}{bx cns:zN}{Q:Exit->PS->Prop}{l l' y:LC}{L L':PL}{σ:PS}{ops:List LO}{fps:List (zN×zN)}{es:List zN}
def rn(n:Nat)(h:vu tb n l L=some (l',L'))(k:LS Tryz.prog nt bx l' (CB L') Q):LS Tryz.prog nt bx l (CB L) Q:=qf ab h k
def Eg{x y}(e:vu tb 1 x L=some (l',L'))(h:∀{K:PS->Prop},(∀σ',LS Tryz.prog nt bx y σ' Q->K σ')->LS Tryz.prog nt bx l' (CB L') (Xy K Q)):LS Tryz.prog nt bx (.seq x y) (CB L) Q:=An λ_ a=>rn 1 e<|h a
def rs(h:aJ Tryz.prog tb cns ops σ (λσ'=>LS Tryz.prog nt bx y σ' Q)):LS Tryz.prog nt bx (.seq (.rgn cns ops) y) σ Q:=uC ab h
def rsB{α:Type}(f:α->List V)(l:List α)(e:TypeId)(es:Nat){L:PL}{s d t:TypeId}{n:Nat}{ps:Array (Nat×Operand)}{a:List LO}(h:bsO tb L s n ps.toList=some (e,es,L,l.flatMap f))(b:l.length=n)(c:∀x,(f x).length=es)(k:aJ Tryz.prog tb cns a (CB<|(d,.own e l.length<|l.flatMap f)::L) (λσ'=>LS Tryz.prog nt bx y σ' Q)):LS Tryz.prog nt bx (.seq (.rgn cns<|⟨some d,.buildSlice s n ps,t,none⟩::a) y) (CB L) Q:=rs<|qBk f l e es h b c k
def rk(h:∀K:PS->Prop,(∀σ',LS Tryz.prog nt bx y σ' Q->K σ')->aJ Tryz.prog tb cns ops σ K):LS Tryz.prog nt bx (.seq (.rgn cns ops) y) σ Q:=xW ab h
def rg(h:aJ Tryz.prog tb cns ops σ (Q .normal)):LS Tryz.prog nt bx (.rgn cns ops) σ Q:=uB ab h
def rd(a:(okD fps es ops&&okF cns fps ops)=true)(h:bP Tryz.prog tb cns fps ops σ (λσ'=>LS Tryz.prog nt bx y σ' Q)):LS Tryz.prog nt bx (.seq (.drw cns fps es ops) y) σ Q:=zX ab mixed a h
def rdk(a:(okD fps es ops&&okF cns fps ops)=true)(h:∀K:PS->Prop,(∀σ',LS Tryz.prog nt bx y σ' Q->K σ')->bP Tryz.prog tb cns fps ops σ K):LS Tryz.prog nt bx (.seq (.drw cns fps es ops) y) σ Q:=xV ab mixed a h
def eR(a:(okD fps es ops&&okF cns fps ops)=true)(h:bP Tryz.prog tb cns fps ops σ (Q .normal)):LS Tryz.prog nt bx (.drw cns fps es ops) σ Q:=ux ab mixed a h
def st{f fn base cn args r}(b:BE f bx base cn fn)(a:(Nat.ble args.length fn.ntmps&&(args.all O7&&okR (S9 0 args)))=true)(h:LS Tryz.prog fn.ntmps bx (U0 base cn<|cdF fn) (CB<|S9 0 args) (vr tb fn.results.toList r)):Mp Tryz.prog f args r:=by simp only[Ad]at a;exact se ab b (nb a.1) a.2.1<|qi args a.2.2 h
def rt(p:Nat)(a:(okD fps es ops&&(okF cns fps ops&&okT p es ops))=true)(h:bP Tryz.prog tb cns (fps.take p) (ops.take p) σ (λσ'=>Gh Tryz.prog nt bx σ'<|λσ2=>aJ Tryz.prog tb cns (ops.drop p) σ2<|λσ'=>LS Tryz.prog nt bx y σ' Q)):LS Tryz.prog nt bx (.seq (.drw cns fps es ops) y) σ Q:=jD<|nD ab mixed p a h
def rgt(p:Nat)(a:(okD fps es ops&&(okF cns fps ops&&okT p es ops))=true)(h:bP Tryz.prog tb cns (fps.take p) (ops.take p) σ (λσ'=>Gh Tryz.prog nt bx σ'<|λσ2=>aJ Tryz.prog tb cns (ops.drop p) σ2<|Q .normal)):LS Tryz.prog nt bx (.drw cns fps es ops) σ Q:=nD ab mixed p a h
def fG{f fn base cn cs args cs' r}(b:BE f bx base cn fn)(a:(Nat.ble (args.length+1) fn.ntmps&&((bx.contains 0&&bx.contains Sj)&&(args.all O7&&(!(fn.results.toList.map MF).contains 0&&(cs'.all J5&&okR (S9 0<|.box cs::args))))))=true)(h:LS Tryz.prog fn.ntmps bx (U0 base cn<|cdF fn) (CB<|S9 0<|.box cs::args) (AhM tb fn.results.toList r cs')):Kg Tryz.prog f cs args cs' r:=by simp only[Ad,AY]at a;exact yq ab b (nb a.1) (by rw[Ad];exact a.2.1) a.2.2.1 a.2.2.2.1 a.2.2.2.2.1<|qi _ a.2.2.2.2.2 h
def stl{f fn base cn os args args' os' rb}(c:BE f bx base cn fn)(a:(Nat.ble (os.length+args.length) fn.ntmps&&(ul bx os.length&&(os.all dX&&(os'.all V.DF&&okR (S9 0<|os++args')))))=true)(d:args.all MT=true)(e:args.map Qf=args')(g:F7 os=true)(b:F7 os'=true)(h:LS Tryz.prog fn.ntmps bx (U0 base cn<|cdF fn) (CB<|S9 0<|os++args') (AhK tb fn.results.toList os.length os'<|.bool rb)):UP Tryz.prog f [] os args os' (.bool rb):=by subst e;rw[Ad,Ad,Ad,Ad]at a;exact uk ab c (nb a.1) a.2.1 d g a.2.2.1 b a.2.2.2.1<|qi _ a.2.2.2.2 h
def stv{f fn base cn us css css' args r}(c:BE f bx base cn fn)(a:(Nat.ble (args.length+css.length) fn.ntmps&&(Nat.ble fn.ntmps 910000&&(AeC bx args.length css.length&&(args.all O7&&okR (Zp args.length us<|S9 0<|args++css.map V.box)))))=true)(b:r=.tup []∨J5 r=true)(h:LS Tryz.prog fn.ntmps bx (U0 base cn<|cdF fn) (CB<|Zp args.length us<|S9 0<|args++css.map V.box) (AhN tb fn.results.toList args.length css.length css' r)):Y5 Tryz.prog f us css args css' r:=by rw[Ad,Ad,Ad,Ad]at a;exact zq ab c (nb a.1) (nb a.2.1) a.2.2.1 a.2.2.2.1 b<|qiv (by have:=nb a.1;have:=nb a.2.1;rw[Ak,Am];omega) a.2.2.2.2 h
def stn{f t fn base cn args cs}(b:BE f bx base cn fn)(c:fn.results.toList=[.tmp t])(a:(Nat.ble args.length fn.ntmps&&(args.all O7&&(cs.all J5&&okR (S9 0 args))))=true)(h:LS Tryz.prog fn.ntmps bx (U0 base cn<|cdF fn) (CB<|S9 0 args) (AhL t cs)):NewAt Tryz.prog f args cs:=by rw[Ad,Ad,Ad]at a;unfold BE at b;rw[c]at b;exact x5 b (nb a.1) a.2.1 a.2.2.1<|qi args a.2.2.2 h
def sta{f fn base cn args args' r}(b:BE f bx base cn fn)(a:(Nat.ble args.length fn.ntmps&&okR (S9 0 args'))=true)(c:args.all MT=true)(d:args.map Qf=args')(e:oI r=true)(h:LS Tryz.prog fn.ntmps bx (U0 base cn<|cdF fn) (CB<|S9 0 args') (vr tb fn.results.toList r)):Mp Tryz.prog f args r:=by subst d;simp only[Ad]at a;exact oa ab b (nb a.1) c e<|qi _ a.2 h
end
end Go.Proofs.YtpnoalhfjnjeaaaGreatDoor
