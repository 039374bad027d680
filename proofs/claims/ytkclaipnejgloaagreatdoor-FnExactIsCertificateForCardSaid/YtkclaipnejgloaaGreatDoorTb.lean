/-
 The pure machine's table of this program's types, printed by gentab.py, and that it is so. No conditions.
-/
import Derived.Test.YtkclaipnejgloaaGreatDoorKb
import Derived.Test.YtkclaipnejgloaaGreatDoorProg
namespace Go.Proofs.YtkclaipnejgloaaGreatDoor
open Go.RowKit
set_option linter.unusedVariables false
set_option maxRecDepth 100000
theorem kh : Agr Tryz.prog 2 (.sc (.int .i64 0)):=Mh .i64 (by kernel_rfl) (by kernel_rfl)
theorem kj : Agr Tryz.prog 3 (.sc (.int .i64 0)):=Mh .i64 (by kernel_rfl) (by kernel_rfl)
theorem kl : Agr Tryz.prog 4 (.sc (.bool false)):=Wh (by kernel_rfl) (by kernel_rfl)
theorem km : Agr Tryz.prog 5 (.sc (.int .u8 0)):=Mh .u8 (by kernel_rfl) (by kernel_rfl)
theorem kn : Agr Tryz.prog 9 (.sc (.str [])):=YE (by kernel_rfl) (by kernel_rfl)
theorem fh : Agr Tryz.prog 12 (.sc (.int .u64 0)):=Mh .u64 (by kernel_rfl) (by kernel_rfl)
theorem fi : Agr Tryz.prog 21 (.sc (.int .i32 0)):=Mh .i32 (by kernel_rfl) (by kernel_rfl)
theorem fj : Agr Tryz.prog 22 (.sl 76 3 48 [.str [],.int .i64 0,.own 26 0 []]):=KX (zv:=.agg #[.string ⟨#[]⟩,.int .i64 0,.slice none 0 0]) (by kernel_rfl) (by kernel_rfl) (by kernel_rfl) (AG (Mc) ( AG (F7 .i64) ( AG (FD 26) (E2)))) rfl (by decide) (by decide) (by decide)
theorem fk : Agr Tryz.prog 24 (.st 1 [.own 76 0 []] [(0,1)]):=In (us:=[.slice none 0 0]) (by kernel_rfl) (AG (FD 76) (E2)) Tryz.underlying24 (by kernel_rfl) (by decide)
theorem fm : Agr Tryz.prog 25 (.sl 79 2 40 [.str [],.own 3 0 []]):=KX (zv:=.agg #[.string ⟨#[]⟩,.slice none 0 0]) (by kernel_rfl) (by kernel_rfl) (by kernel_rfl) (AG (Mc) ( AG (FD 3) (E2))) rfl (by decide) (by decide) (by decide)
theorem fo : Agr Tryz.prog 26 (.sl 3 1 8 [.int .i64 0]):=KX (zv:=.int .i64 0) (by kernel_rfl) (by kernel_rfl) (by kernel_rfl) (AG (F7 .i64) (E2)) rfl (by decide) (by decide) (by decide)
theorem fp : Agr Tryz.prog 28 (.st 3 [.int .i64 0,.own 79 0 [],.own 3 0 []] [(0,1),(1,1),(2,1)]):=In (us:=[.int .i64 0,.slice none 0 0,.slice none 0 0]) (by kernel_rfl) (AG (F7 .i64) ( AG (FD 79) ( AG (FD 3) (E2)))) Tryz.underlying28 (by kernel_rfl) (by decide)
theorem fq : Agr Tryz.prog 29 (.sl 103 2 16 [.int .i64 0,.int .i64 0]):=KX (zv:=.agg #[.int .i64 0,.int .i64 0]) (by kernel_rfl) (by kernel_rfl) (by kernel_rfl) (AG (F7 .i64) ( AG (F7 .i64) (E2))) rfl (by decide) (by decide) (by decide)
theorem ft : Agr Tryz.prog 31 (.st 5 [.own 3 0 [],.own 103 0 [],.own 3 0 [],.int .i64 0,.int .i64 0] [(0,1),(1,1),(2,1),(3,1),(4,1)]):=In (us:=[.slice none 0 0,.slice none 0 0,.slice none 0 0,.int .i64 0,.int .i64 0]) (by kernel_rfl) (AG (FD 3) ( AG (FD 103) ( AG (FD 3) ( AG (F7 .i64) ( AG (F7 .i64) (E2)))))) Tryz.underlying31 (by kernel_rfl) (by decide)
theorem fu : Agr Tryz.prog 36 (.sl 97 3 48 [.str [],.int .i64 0,.own 26 0 []]):=KX (zv:=.agg #[.string ⟨#[]⟩,.int .i64 0,.slice none 0 0]) (by kernel_rfl) (by kernel_rfl) (by kernel_rfl) (AG (Mc) ( AG (F7 .i64) ( AG (FD 26) (E2)))) rfl (by decide) (by decide) (by decide)
theorem fv : Agr Tryz.prog 38 (.st 1 [.own 97 0 []] [(0,1)]):=In (us:=[.slice none 0 0]) (by kernel_rfl) (AG (FD 97) (E2)) Tryz.underlying38 (by kernel_rfl) (by decide)
theorem fw : Agr Tryz.prog 40 (.sl 90 2 40 [.str [],.own 3 0 []]):=KX (zv:=.agg #[.string ⟨#[]⟩,.slice none 0 0]) (by kernel_rfl) (by kernel_rfl) (by kernel_rfl) (AG (Mc) ( AG (FD 3) (E2))) rfl (by decide) (by decide) (by decide)
theorem fx : Agr Tryz.prog 42 (.st 3 [.int .i64 0,.own 90 0 [],.own 3 0 []] [(0,1),(1,1),(2,1)]):=In (us:=[.int .i64 0,.slice none 0 0,.slice none 0 0]) (by kernel_rfl) (AG (F7 .i64) ( AG (FD 90) ( AG (FD 3) (E2)))) Tryz.underlying42 (by kernel_rfl) (by decide)
theorem fy : Agr Tryz.prog 44 (.sl 101 2 16 [.int .i64 0,.int .i64 0]):=KX (zv:=.agg #[.int .i64 0,.int .i64 0]) (by kernel_rfl) (by kernel_rfl) (by kernel_rfl) (AG (F7 .i64) ( AG (F7 .i64) (E2))) rfl (by decide) (by decide) (by decide)
theorem fA : Agr Tryz.prog 46 (.st 5 [.own 3 0 [],.own 101 0 [],.own 3 0 [],.int .i64 0,.int .i64 0] [(0,1),(1,1),(2,1),(3,1),(4,1)]):=In (us:=[.slice none 0 0,.slice none 0 0,.slice none 0 0,.int .i64 0,.int .i64 0]) (by kernel_rfl) (AG (FD 3) ( AG (FD 101) ( AG (FD 3) ( AG (F7 .i64) ( AG (F7 .i64) (E2)))))) Tryz.underlying46 (by kernel_rfl) (by decide)
theorem fB : Agr Tryz.prog 56 (.sl 26 1 24 [.own 3 0 []]):=KX (zv:=.slice none 0 0) (by kernel_rfl) (by kernel_rfl) (by kernel_rfl) (AG (FD 3) (E2)) rfl (by decide) (by decide) (by decide)
theorem fC : Agr Tryz.prog 58 (.st 2 [.int .i64 0,.own 26 0 []] [(0,1),(1,1)]):=In (us:=[.int .i64 0,.slice none 0 0]) (by kernel_rfl) (AG (F7 .i64) ( AG (FD 26) (E2))) Tryz.underlying58 (by kernel_rfl) (by decide)
theorem fD : Agr Tryz.prog 74 (.st 2 [.int .i64 0,.own 26 0 []] [(0,1),(1,1)]):=In (us:=[.int .i64 0,.slice none 0 0]) (by kernel_rfl) (AG (F7 .i64) ( AG (FD 26) (E2))) Tryz.underlying74 (by kernel_rfl) (by decide)
theorem fE : Agr Tryz.prog 76 (.st 3 [.str [],.int .i64 0,.own 26 0 []] [(0,1),(1,2)]):=In (us:=[.string ⟨#[]⟩,.int .i64 0,.slice none 0 0]) (by kernel_rfl) (AG (Mc) ( AG (F7 .i64) ( AG (FD 26) (E2)))) Tryz.underlying76 (by kernel_rfl) (by decide)
theorem fF : Agr Tryz.prog 79 (.st 2 [.str [],.own 3 0 []] [(0,1),(1,1)]):=In (us:=[.string ⟨#[]⟩,.slice none 0 0]) (by kernel_rfl) (AG (Mc) ( AG (FD 3) (E2))) Tryz.underlying79 (by kernel_rfl) (by decide)
theorem fG : Agr Tryz.prog 80 (.sl 111 2 32 [.int .i64 0,.own 26 0 []]):=KX (zv:=.agg #[.int .i64 0,.slice none 0 0]) (by kernel_rfl) (by kernel_rfl) (by kernel_rfl) (AG (F7 .i64) ( AG (FD 26) (E2))) rfl (by decide) (by decide) (by decide)
theorem fH : Agr Tryz.prog 90 (.st 2 [.str [],.own 3 0 []] [(0,1),(1,1)]):=In (us:=[.string ⟨#[]⟩,.slice none 0 0]) (by kernel_rfl) (AG (Mc) ( AG (FD 3) (E2))) Tryz.underlying90 (by kernel_rfl) (by decide)
theorem fI : Agr Tryz.prog 97 (.st 3 [.str [],.int .i64 0,.own 26 0 []] [(0,1),(1,2)]):=In (us:=[.string ⟨#[]⟩,.int .i64 0,.slice none 0 0]) (by kernel_rfl) (AG (Mc) ( AG (F7 .i64) ( AG (FD 26) (E2)))) Tryz.underlying97 (by kernel_rfl) (by decide)
theorem aA : Agr Tryz.prog 101 (.st 2 [.int .i64 0,.int .i64 0] [(0,1),(1,1)]):=In (us:=[.int .i64 0,.int .i64 0]) (by kernel_rfl) (AG (F7 .i64) ( AG (F7 .i64) (E2))) Tryz.underlying101 (by kernel_rfl) (by decide)
theorem aB : Agr Tryz.prog 103 (.st 2 [.int .i64 0,.int .i64 0] [(0,1),(1,1)]):=In (us:=[.int .i64 0,.int .i64 0]) (by kernel_rfl) (AG (F7 .i64) ( AG (F7 .i64) (E2))) Tryz.underlying103 (by kernel_rfl) (by decide)
theorem aC : Agr Tryz.prog 111 (.st 2 [.int .i64 0,.own 26 0 []] [(0,1),(1,1)]):=In (us:=[.int .i64 0,.slice none 0 0]) (by kernel_rfl) (AG (F7 .i64) ( AG (FD 26) (E2))) Tryz.underlying111 (by kernel_rfl) (by decide)
theorem aD : Agr Tryz.prog 132 (.st 1 [.own 3 0 []] [(0,1)]):=In (us:=[.slice none 0 0]) (by kernel_rfl) (AG (FD 3) (E2)) Tryz.underlying132 (by kernel_rfl) (by decide)
theorem aE : Agr Tryz.prog 162 (.sl 4 1 1 [.bool false]):=KX (zv:=.bool false) (by kernel_rfl) (by kernel_rfl) (by kernel_rfl) (AG (Wc) (E2)) rfl (by decide) (by decide) (by decide)
theorem aF : Agr Tryz.prog 180 (.sc (.int .u32 0)):=Mh .u32 (by kernel_rfl) (by kernel_rfl)
def tb : Tb:=fun t => match t with
 | 2 => some (.sc (.int .i64 0))
 | 3 => some (.sc (.int .i64 0))
 | 4 => some (.sc (.bool false))
 | 5 => some (.sc (.int .u8 0))
 | 9 => some (.sc (.str []))
 | 12 => some (.sc (.int .u64 0))
 | 21 => some (.sc (.int .i32 0))
 | 22 => some (.sl 76 3 48 [.str [],.int .i64 0,.own 26 0 []])
 | 24 => some (.st 1 [.own 76 0 []] [(0,1)])
 | 25 => some (.sl 79 2 40 [.str [],.own 3 0 []])
 | 26 => some (.sl 3 1 8 [.int .i64 0])
 | 28 => some (.st 3 [.int .i64 0,.own 79 0 [],.own 3 0 []] [(0,1),(1,1),(2,1)])
 | 29 => some (.sl 103 2 16 [.int .i64 0,.int .i64 0])
 | 31 => some (.st 5 [.own 3 0 [],.own 103 0 [],.own 3 0 [],.int .i64 0,.int .i64 0] [(0,1),(1,1),(2,1),(3,1),(4,1)])
 | 36 => some (.sl 97 3 48 [.str [],.int .i64 0,.own 26 0 []])
 | 38 => some (.st 1 [.own 97 0 []] [(0,1)])
 | 40 => some (.sl 90 2 40 [.str [],.own 3 0 []])
 | 42 => some (.st 3 [.int .i64 0,.own 90 0 [],.own 3 0 []] [(0,1),(1,1),(2,1)])
 | 44 => some (.sl 101 2 16 [.int .i64 0,.int .i64 0])
 | 46 => some (.st 5 [.own 3 0 [],.own 101 0 [],.own 3 0 [],.int .i64 0,.int .i64 0] [(0,1),(1,1),(2,1),(3,1),(4,1)])
 | 56 => some (.sl 26 1 24 [.own 3 0 []])
 | 58 => some (.st 2 [.int .i64 0,.own 26 0 []] [(0,1),(1,1)])
 | 74 => some (.st 2 [.int .i64 0,.own 26 0 []] [(0,1),(1,1)])
 | 76 => some (.st 3 [.str [],.int .i64 0,.own 26 0 []] [(0,1),(1,2)])
 | 79 => some (.st 2 [.str [],.own 3 0 []] [(0,1),(1,1)])
 | 80 => some (.sl 111 2 32 [.int .i64 0,.own 26 0 []])
 | 90 => some (.st 2 [.str [],.own 3 0 []] [(0,1),(1,1)])
 | 97 => some (.st 3 [.str [],.int .i64 0,.own 26 0 []] [(0,1),(1,2)])
 | 101 => some (.st 2 [.int .i64 0,.int .i64 0] [(0,1),(1,1)])
 | 103 => some (.st 2 [.int .i64 0,.int .i64 0] [(0,1),(1,1)])
 | 111 => some (.st 2 [.int .i64 0,.own 26 0 []] [(0,1),(1,1)])
 | 132 => some (.st 1 [.own 3 0 []] [(0,1)])
 | 162 => some (.sl 4 1 1 [.bool false])
 | 180 => some (.sc (.int .u32 0))
 | _ => none
theorem Xu : KD Tryz.prog tb:=by
 intro t d h
 unfold tb at h
 split at h
 ·injection h with h; subst h; exact kh
 ·injection h with h; subst h; exact kj
 ·injection h with h; subst h; exact kl
 ·injection h with h; subst h; exact km
 ·injection h with h; subst h; exact kn
 ·injection h with h; subst h; exact fh
 ·injection h with h; subst h; exact fi
 ·injection h with h; subst h; exact fj
 ·injection h with h; subst h; exact fk
 ·injection h with h; subst h; exact fm
 ·injection h with h; subst h; exact fo
 ·injection h with h; subst h; exact fp
 ·injection h with h; subst h; exact fq
 ·injection h with h; subst h; exact ft
 ·injection h with h; subst h; exact fu
 ·injection h with h; subst h; exact fv
 ·injection h with h; subst h; exact fw
 ·injection h with h; subst h; exact fx
 ·injection h with h; subst h; exact fy
 ·injection h with h; subst h; exact fA
 ·injection h with h; subst h; exact fB
 ·injection h with h; subst h; exact fC
 ·injection h with h; subst h; exact fD
 ·injection h with h; subst h; exact fE
 ·injection h with h; subst h; exact fF
 ·injection h with h; subst h; exact fG
 ·injection h with h; subst h; exact fH
 ·injection h with h; subst h; exact fI
 ·injection h with h; subst h; exact aA
 ·injection h with h; subst h; exact aB
 ·injection h with h; subst h; exact aC
 ·injection h with h; subst h; exact aD
 ·injection h with h; subst h; exact aE
 ·injection h with h; subst h; exact aF
 ·cases h
theorem mixed : Tryz.prog.follows .mixedOrders = true:=by kernel_rfl
abbrev Bb (f : Nat) (bx : List Nat) (base : List (Nat × Nat)) (cn : List (Nat × List Nat)) (fn : Func) : Prop:=Lit Tryz.prog f fn.ntmps bx fn.results.toList (Rl base cn (cdF fn))
section
variable {nt : Nat} {bx cns : List Nat} {Q : Exit -> PS -> Prop} {l l' y : LC} {L L' : PL} {σ : PS} {ops : List LO} {fps : List (List Nat × List Nat)} {es : List (List Nat)}
theorem rn (n : Nat) (h : eW tb n l L = some (l',L')) (k : LS Tryz.prog nt bx l' (ofL L') Q) : LS Tryz.prog nt bx l (ofL L) Q:=VK Xu h k
theorem rs (h : evS Tryz.prog tb cns ops σ (fun σ' => LS Tryz.prog nt bx y σ' Q)) : LS Tryz.prog nt bx (.seq (.rgn cns ops) y) σ Q:=Zr Xu h
theorem rk (h : ∀ K : PS -> Prop,(∀ σ',LS Tryz.prog nt bx y σ' Q -> K σ') -> evS Tryz.prog tb cns ops σ K) : LS Tryz.prog nt bx (.seq (.rgn cns ops) y) σ Q:=Zs Xu h
theorem rg (h : evS Tryz.prog tb cns ops σ (Q .normal)) : LS Tryz.prog nt bx (.rgn cns ops) σ Q:=X9 Xu h
theorem rd (hD : (okD fps es ops && okF cns fps ops) = true) (h : evD Tryz.prog tb cns fps ops σ (fun σ' => LS Tryz.prog nt bx y σ' Q)) : LS Tryz.prog nt bx (.seq (.drw cns fps es ops) y) σ Q:=cZ Xu mixed hD h
theorem rdk (hD : (okD fps es ops && okF cns fps ops) = true) (h : ∀ K : PS -> Prop,(∀ σ',LS Tryz.prog nt bx y σ' Q -> K σ') -> evD Tryz.prog tb cns fps ops σ K) : LS Tryz.prog nt bx (.seq (.drw cns fps es ops) y) σ Q:=Zq Xu mixed hD h
theorem rgd (hD : (okD fps es ops && okF cns fps ops) = true) (h : evD Tryz.prog tb cns fps ops σ (Q .normal)) : LS Tryz.prog nt bx (.drw cns fps es ops) σ Q:=X8 Xu mixed hD h
theorem st {f : Nat} {fn : Func} {base : List (Nat × Nat)} {cn : List (Nat × List Nat)} {args : List V} {r : V} (hl : Bb f bx base cn fn) (h0 : (Nat.ble args.length fn.ntmps && (args.all QX && okR (WH 0 args))) = true) (h : LS Tryz.prog fn.ntmps bx (Rl base cn (cdF fn)) (ofL (WH 0 args)) (jA tb fn.results.toList r)) : Ag Tryz.prog f args r:=by
 simp only [Bool.and_eq_true] at h0
 exact VX Xu hl (nb h0.1) h0.2.1 (qi args h0.2.2 h)
theorem rt (p : Nat) (hD : (okD fps es ops && (okF cns fps ops && okT p es ops)) = true) (h : evD Tryz.prog tb cns (fps.take p) (ops.take p) σ (fun σ' => Gh Tryz.prog nt bx σ' (fun σ2 => evS Tryz.prog tb cns (ops.drop p) σ2 (fun σ' => LS Tryz.prog nt bx y σ' Q)))) : LS Tryz.prog nt bx (.seq (.drw cns fps es ops) y) σ Q:=SS (X7 Xu mixed p hD h)
end
end Go.Proofs.YtkclaipnejgloaaGreatDoor
