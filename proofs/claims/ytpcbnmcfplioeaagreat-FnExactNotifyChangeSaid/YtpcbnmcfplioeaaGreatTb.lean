/-
 The pure machine's table of this program's types, printed by gentab.py, and that it is so. No conditions.
-/
import Derived.Test.YtpcbnmcfplioeaaGreatKb
import Derived.Test.YtpcbnmcfplioeaaGreatProg
namespace Go.Proofs.YtpcbnmcfplioeaaGreat
open Go.RowKit
set_option linter.unusedVariables false
set_option maxRecDepth 100000
theorem ph : Agr Tryz.prog 2 (.sc (.int .i64 0)) := MG .i64 (by kernel_rfl) (by kernel_rfl)
theorem pi : Agr Tryz.prog 3 (.sc (.int .i64 0)) := MG .i64 (by kernel_rfl) (by kernel_rfl)
theorem pj : Agr Tryz.prog 4 (.sc (.bool false)) := Zj (by kernel_rfl) (by kernel_rfl)
theorem pk : Agr Tryz.prog 5 (.sc (.int .u8 0)) := MG .u8 (by kernel_rfl) (by kernel_rfl)
theorem pl : Agr Tryz.prog 9 (.sc (.str [])) := cr (by kernel_rfl) (by kernel_rfl)
theorem lG : Agr Tryz.prog 12 (.sc (.int .u64 0)) := MG .u64 (by kernel_rfl) (by kernel_rfl)
theorem lH : Agr Tryz.prog 21 (.sc (.int .i32 0)) := MG .i32 (by kernel_rfl) (by kernel_rfl)
theorem lI : Agr Tryz.prog 22 (.sl 5 1 1 [.int .u8 0]) := Kz (zv := .int .u8 0) (by kernel_rfl) (by kernel_rfl) (by kernel_rfl) (Au (Ep .u8) (C2)) rfl (by decide) (by decide) (by decide)
theorem lJ : Agr Tryz.prog 24 (.sl 123 3 48 [.str [],.int .i64 0,.own 42 0 []]) := Kz (zv := .agg #[.string ⟨#[]⟩,.int .i64 0,.slice none 0 0]) (by kernel_rfl) (by kernel_rfl) (by kernel_rfl) (Au (Lw) ( Au (Ep .i64) ( Au (Bd 42) (C2)))) rfl (by decide) (by decide) (by decide)
theorem lK : Agr Tryz.prog 26 (.st 1 [.own 123 0 []] [(0,1)]) := Ht (us := [.slice none 0 0]) (by kernel_rfl) (Au (Bd 123) (C2)) Tryz.underlying26 (by kernel_rfl) (by decide)
theorem lL : Agr Tryz.prog 27 (.sl 54 6 112 [.int .i64 0,.own 146 0 [],.own 3 0 [],.int .i64 0,.own 42 0 [],.own 3 0 []]) := Kz (zv := .agg #[.int .i64 0,.slice none 0 0,.slice none 0 0,.int .i64 0,.slice none 0 0,.slice none 0 0]) (by kernel_rfl) (by kernel_rfl) (by kernel_rfl) (Au (Ep .i64) ( Au (Bd 146) ( Au (Bd 3) ( Au (Ep .i64) ( Au (Bd 42) ( Au (Bd 3) (C2))))))) rfl (by decide) (by decide) (by decide)
theorem lM : Agr Tryz.prog 28 (.sl 44 3 56 [.int .i64 0,.own 42 0 [],.own 3 0 []]) := Kz (zv := .agg #[.int .i64 0,.slice none 0 0,.slice none 0 0]) (by kernel_rfl) (by kernel_rfl) (by kernel_rfl) (Au (Ep .i64) ( Au (Bd 42) ( Au (Bd 3) (C2)))) rfl (by decide) (by decide) (by decide)
theorem lN : Agr Tryz.prog 30 (.st 3 [.own 123 0 [],.own 54 0 [],.own 44 0 []] [(0,1),(1,1),(2,1)]) := Ht (us := [.slice none 0 0,.slice none 0 0,.slice none 0 0]) (by kernel_rfl) (Au (Bd 123) ( Au (Bd 54) ( Au (Bd 44) (C2)))) Tryz.underlying30 (by kernel_rfl) (by decide)
theorem lO : Agr Tryz.prog 31 (.sl 42 1 24 [.own 3 0 []]) := Kz (zv := .slice none 0 0) (by kernel_rfl) (by kernel_rfl) (by kernel_rfl) (Au (Bd 3) (C2)) rfl (by decide) (by decide) (by decide)
theorem lP : Agr Tryz.prog 33 (.st 2 [.int .i64 0,.own 42 0 []] [(0,1),(1,1)]) := Ht (us := [.int .i64 0,.slice none 0 0]) (by kernel_rfl) (Au (Ep .i64) ( Au (Bd 42) (C2))) Tryz.underlying33 (by kernel_rfl) (by decide)
theorem lQ : Agr Tryz.prog 35 (.st 5 [.str [],.int .i64 0,.own 42 0 [],.int .i64 0,.own 42 0 []] [(0,1),(1,2),(3,2)]) := Ht (us := [.string ⟨#[]⟩,.int .i64 0,.slice none 0 0,.int .i64 0,.slice none 0 0]) (by kernel_rfl) (Au (Lw) ( Au (Ep .i64) ( Au (Bd 42) ( Au (Ep .i64) ( Au (Bd 42) (C2)))))) Tryz.underlying35 (by kernel_rfl) (by decide)
theorem lR : Agr Tryz.prog 42 (.sl 3 1 8 [.int .i64 0]) := Kz (zv := .int .i64 0) (by kernel_rfl) (by kernel_rfl) (by kernel_rfl) (Au (Ep .i64) (C2)) rfl (by decide) (by decide) (by decide)
theorem lS : Agr Tryz.prog 44 (.st 3 [.int .i64 0,.own 42 0 [],.own 3 0 []] [(0,1),(1,1),(2,1)]) := Ht (us := [.int .i64 0,.slice none 0 0,.slice none 0 0]) (by kernel_rfl) (Au (Ep .i64) ( Au (Bd 42) ( Au (Bd 3) (C2)))) Tryz.underlying44 (by kernel_rfl) (by decide)
theorem lT : Agr Tryz.prog 50 (.sl 146 2 40 [.str [],.own 3 0 []]) := Kz (zv := .agg #[.string ⟨#[]⟩,.slice none 0 0]) (by kernel_rfl) (by kernel_rfl) (by kernel_rfl) (Au (Lw) ( Au (Bd 3) (C2))) rfl (by decide) (by decide) (by decide)
theorem lU : Agr Tryz.prog 52 (.st 3 [.int .i64 0,.own 146 0 [],.own 3 0 []] [(0,1),(1,1),(2,1)]) := Ht (us := [.int .i64 0,.slice none 0 0,.slice none 0 0]) (by kernel_rfl) (Au (Ep .i64) ( Au (Bd 146) ( Au (Bd 3) (C2)))) Tryz.underlying52 (by kernel_rfl) (by decide)
theorem lV : Agr Tryz.prog 54 (.st 6 [.int .i64 0,.own 146 0 [],.own 3 0 [],.int .i64 0,.own 42 0 [],.own 3 0 []] [(0,3),(3,3)]) := Ht (us := [.int .i64 0,.slice none 0 0,.slice none 0 0,.int .i64 0,.slice none 0 0,.slice none 0 0]) (by kernel_rfl) (Au (Ep .i64) ( Au (Bd 146) ( Au (Bd 3) ( Au (Ep .i64) ( Au (Bd 42) ( Au (Bd 3) (C2))))))) Tryz.underlying54 (by kernel_rfl) (by decide)
theorem lW : Agr Tryz.prog 57 (.sl 190 3 48 [.str [],.int .i64 0,.own 42 0 []]) := Kz (zv := .agg #[.string ⟨#[]⟩,.int .i64 0,.slice none 0 0]) (by kernel_rfl) (by kernel_rfl) (by kernel_rfl) (Au (Lw) ( Au (Ep .i64) ( Au (Bd 42) (C2)))) rfl (by decide) (by decide) (by decide)
theorem lX : Agr Tryz.prog 59 (.st 1 [.own 190 0 []] [(0,1)]) := Ht (us := [.slice none 0 0]) (by kernel_rfl) (Au (Bd 190) (C2)) Tryz.underlying59 (by kernel_rfl) (by decide)
theorem lY : Agr Tryz.prog 60 (.sl 161 6 112 [.int .i64 0,.own 214 0 [],.own 3 0 [],.int .i64 0,.own 42 0 [],.own 3 0 []]) := Kz (zv := .agg #[.int .i64 0,.slice none 0 0,.slice none 0 0,.int .i64 0,.slice none 0 0,.slice none 0 0]) (by kernel_rfl) (by kernel_rfl) (by kernel_rfl) (Au (Ep .i64) ( Au (Bd 214) ( Au (Bd 3) ( Au (Ep .i64) ( Au (Bd 42) ( Au (Bd 3) (C2))))))) rfl (by decide) (by decide) (by decide)
theorem lZ : Agr Tryz.prog 61 (.sl 159 3 56 [.int .i64 0,.own 42 0 [],.own 3 0 []]) := Kz (zv := .agg #[.int .i64 0,.slice none 0 0,.slice none 0 0]) (by kernel_rfl) (by kernel_rfl) (by kernel_rfl) (Au (Ep .i64) ( Au (Bd 42) ( Au (Bd 3) (C2)))) rfl (by decide) (by decide) (by decide)
theorem l5 : Agr Tryz.prog 63 (.st 3 [.own 190 0 [],.own 161 0 [],.own 159 0 []] [(0,1),(1,1),(2,1)]) := Ht (us := [.slice none 0 0,.slice none 0 0,.slice none 0 0]) (by kernel_rfl) (Au (Bd 190) ( Au (Bd 161) ( Au (Bd 159) (C2)))) Tryz.underlying63 (by kernel_rfl) (by decide)
theorem l6 : Agr Tryz.prog 64 (.st 2 [.int .i64 0,.own 42 0 []] [(0,1),(1,1)]) := Ht (us := [.int .i64 0,.slice none 0 0]) (by kernel_rfl) (Au (Ep .i64) ( Au (Bd 42) (C2))) Tryz.underlying64 (by kernel_rfl) (by decide)
theorem l7 : Agr Tryz.prog 66 (.st 5 [.str [],.int .i64 0,.own 42 0 [],.int .i64 0,.own 42 0 []] [(0,1),(1,2),(3,2)]) := Ht (us := [.string ⟨#[]⟩,.int .i64 0,.slice none 0 0,.int .i64 0,.slice none 0 0]) (by kernel_rfl) (Au (Lw) ( Au (Ep .i64) ( Au (Bd 42) ( Au (Ep .i64) ( Au (Bd 42) (C2)))))) Tryz.underlying66 (by kernel_rfl) (by decide)
theorem fC : Agr Tryz.prog 114 (.st 3 [.own 5 0 [],.int .i64 0,.int .i64 0] [(0,1),(1,1),(2,1)]) := Ht (us := [.slice none 0 0,.int .i64 0,.int .i64 0]) (by kernel_rfl) (Au (Bd 5) ( Au (Ep .i64) ( Au (Ep .i64) (C2)))) Tryz.underlying114 (by kernel_rfl) (by decide)
theorem fD : Agr Tryz.prog 123 (.st 3 [.str [],.int .i64 0,.own 42 0 []] [(0,1),(1,2)]) := Ht (us := [.string ⟨#[]⟩,.int .i64 0,.slice none 0 0]) (by kernel_rfl) (Au (Lw) ( Au (Ep .i64) ( Au (Bd 42) (C2)))) Tryz.underlying123 (by kernel_rfl) (by decide)
theorem fE : Agr Tryz.prog 126 (.sl 9 1 16 [.str []]) := Kz (zv := .string ⟨#[]⟩) (by kernel_rfl) (by kernel_rfl) (by kernel_rfl) (Au (Lw) (C2)) rfl (by decide) (by decide) (by decide)
theorem fF : Agr Tryz.prog 146 (.st 2 [.str [],.own 3 0 []] [(0,1),(1,1)]) := Ht (us := [.string ⟨#[]⟩,.slice none 0 0]) (by kernel_rfl) (Au (Lw) ( Au (Bd 3) (C2))) Tryz.underlying146 (by kernel_rfl) (by decide)
theorem fG : Agr Tryz.prog 156 (.sl 214 2 40 [.str [],.own 3 0 []]) := Kz (zv := .agg #[.string ⟨#[]⟩,.slice none 0 0]) (by kernel_rfl) (by kernel_rfl) (by kernel_rfl) (Au (Lw) ( Au (Bd 3) (C2))) rfl (by decide) (by decide) (by decide)
theorem fH : Agr Tryz.prog 158 (.st 3 [.int .i64 0,.own 214 0 [],.own 3 0 []] [(0,1),(1,1),(2,1)]) := Ht (us := [.int .i64 0,.slice none 0 0,.slice none 0 0]) (by kernel_rfl) (Au (Ep .i64) ( Au (Bd 214) ( Au (Bd 3) (C2)))) Tryz.underlying158 (by kernel_rfl) (by decide)
theorem fI : Agr Tryz.prog 159 (.st 3 [.int .i64 0,.own 42 0 [],.own 3 0 []] [(0,1),(1,1),(2,1)]) := Ht (us := [.int .i64 0,.slice none 0 0,.slice none 0 0]) (by kernel_rfl) (Au (Ep .i64) ( Au (Bd 42) ( Au (Bd 3) (C2)))) Tryz.underlying159 (by kernel_rfl) (by decide)
theorem fJ : Agr Tryz.prog 161 (.st 6 [.int .i64 0,.own 214 0 [],.own 3 0 [],.int .i64 0,.own 42 0 [],.own 3 0 []] [(0,3),(3,3)]) := Ht (us := [.int .i64 0,.slice none 0 0,.slice none 0 0,.int .i64 0,.slice none 0 0,.slice none 0 0]) (by kernel_rfl) (Au (Ep .i64) ( Au (Bd 214) ( Au (Bd 3) ( Au (Ep .i64) ( Au (Bd 42) ( Au (Bd 3) (C2))))))) Tryz.underlying161 (by kernel_rfl) (by decide)
theorem fK : Agr Tryz.prog 190 (.st 3 [.str [],.int .i64 0,.own 42 0 []] [(0,1),(1,2)]) := Ht (us := [.string ⟨#[]⟩,.int .i64 0,.slice none 0 0]) (by kernel_rfl) (Au (Lw) ( Au (Ep .i64) ( Au (Bd 42) (C2)))) Tryz.underlying190 (by kernel_rfl) (by decide)
theorem fL : Agr Tryz.prog 196 (.sc (.int .u64 0)) := MG .u64 (by kernel_rfl) (by kernel_rfl)
theorem fM : Agr Tryz.prog 201 (.st 3 [.own 3 0 [],.int .i64 0,.own 42 0 []] [(0,1),(1,2)]) := Ht (us := [.slice none 0 0,.int .i64 0,.slice none 0 0]) (by kernel_rfl) (Au (Bd 3) ( Au (Ep .i64) ( Au (Bd 42) (C2)))) Tryz.underlying201 (by kernel_rfl) (by decide)
theorem fN : Agr Tryz.prog 214 (.st 2 [.str [],.own 3 0 []] [(0,1),(1,1)]) := Ht (us := [.string ⟨#[]⟩,.slice none 0 0]) (by kernel_rfl) (Au (Lw) ( Au (Bd 3) (C2))) Tryz.underlying214 (by kernel_rfl) (by decide)
theorem fO : Agr Tryz.prog 218 (.sl 4 1 1 [.bool false]) := Kz (zv := .bool false) (by kernel_rfl) (by kernel_rfl) (by kernel_rfl) (Au (Y6) (C2)) rfl (by decide) (by decide) (by decide)
theorem fP : Agr Tryz.prog 226 (.sc (.int .u32 0)) := MG .u32 (by kernel_rfl) (by kernel_rfl)
def tb : Tb := fun t => match t with
 | 2 => some (.sc (.int .i64 0))
 | 3 => some (.sc (.int .i64 0))
 | 4 => some (.sc (.bool false))
 | 5 => some (.sc (.int .u8 0))
 | 9 => some (.sc (.str []))
 | 12 => some (.sc (.int .u64 0))
 | 21 => some (.sc (.int .i32 0))
 | 22 => some (.sl 5 1 1 [.int .u8 0])
 | 24 => some (.sl 123 3 48 [.str [],.int .i64 0,.own 42 0 []])
 | 26 => some (.st 1 [.own 123 0 []] [(0,1)])
 | 27 => some (.sl 54 6 112 [.int .i64 0,.own 146 0 [],.own 3 0 [],.int .i64 0,.own 42 0 [],.own 3 0 []])
 | 28 => some (.sl 44 3 56 [.int .i64 0,.own 42 0 [],.own 3 0 []])
 | 30 => some (.st 3 [.own 123 0 [],.own 54 0 [],.own 44 0 []] [(0,1),(1,1),(2,1)])
 | 31 => some (.sl 42 1 24 [.own 3 0 []])
 | 33 => some (.st 2 [.int .i64 0,.own 42 0 []] [(0,1),(1,1)])
 | 35 => some (.st 5 [.str [],.int .i64 0,.own 42 0 [],.int .i64 0,.own 42 0 []] [(0,1),(1,2),(3,2)])
 | 42 => some (.sl 3 1 8 [.int .i64 0])
 | 44 => some (.st 3 [.int .i64 0,.own 42 0 [],.own 3 0 []] [(0,1),(1,1),(2,1)])
 | 50 => some (.sl 146 2 40 [.str [],.own 3 0 []])
 | 52 => some (.st 3 [.int .i64 0,.own 146 0 [],.own 3 0 []] [(0,1),(1,1),(2,1)])
 | 54 => some (.st 6 [.int .i64 0,.own 146 0 [],.own 3 0 [],.int .i64 0,.own 42 0 [],.own 3 0 []] [(0,3),(3,3)])
 | 57 => some (.sl 190 3 48 [.str [],.int .i64 0,.own 42 0 []])
 | 59 => some (.st 1 [.own 190 0 []] [(0,1)])
 | 60 => some (.sl 161 6 112 [.int .i64 0,.own 214 0 [],.own 3 0 [],.int .i64 0,.own 42 0 [],.own 3 0 []])
 | 61 => some (.sl 159 3 56 [.int .i64 0,.own 42 0 [],.own 3 0 []])
 | 63 => some (.st 3 [.own 190 0 [],.own 161 0 [],.own 159 0 []] [(0,1),(1,1),(2,1)])
 | 64 => some (.st 2 [.int .i64 0,.own 42 0 []] [(0,1),(1,1)])
 | 66 => some (.st 5 [.str [],.int .i64 0,.own 42 0 [],.int .i64 0,.own 42 0 []] [(0,1),(1,2),(3,2)])
 | 114 => some (.st 3 [.own 5 0 [],.int .i64 0,.int .i64 0] [(0,1),(1,1),(2,1)])
 | 123 => some (.st 3 [.str [],.int .i64 0,.own 42 0 []] [(0,1),(1,2)])
 | 126 => some (.sl 9 1 16 [.str []])
 | 146 => some (.st 2 [.str [],.own 3 0 []] [(0,1),(1,1)])
 | 156 => some (.sl 214 2 40 [.str [],.own 3 0 []])
 | 158 => some (.st 3 [.int .i64 0,.own 214 0 [],.own 3 0 []] [(0,1),(1,1),(2,1)])
 | 159 => some (.st 3 [.int .i64 0,.own 42 0 [],.own 3 0 []] [(0,1),(1,1),(2,1)])
 | 161 => some (.st 6 [.int .i64 0,.own 214 0 [],.own 3 0 [],.int .i64 0,.own 42 0 [],.own 3 0 []] [(0,3),(3,3)])
 | 190 => some (.st 3 [.str [],.int .i64 0,.own 42 0 []] [(0,1),(1,2)])
 | 196 => some (.sc (.int .u64 0))
 | 201 => some (.st 3 [.own 3 0 [],.int .i64 0,.own 42 0 []] [(0,1),(1,2)])
 | 214 => some (.st 2 [.str [],.own 3 0 []] [(0,1),(1,1)])
 | 218 => some (.sl 4 1 1 [.bool false])
 | 226 => some (.sc (.int .u32 0))
 | _ => none
theorem ER : JY Tryz.prog tb := by
 intro t d h
 unfold tb at h
 split at h
 ·injection h with h; subst h; exact ph
 ·injection h with h; subst h; exact pi
 ·injection h with h; subst h; exact pj
 ·injection h with h; subst h; exact pk
 ·injection h with h; subst h; exact pl
 ·injection h with h; subst h; exact lG
 ·injection h with h; subst h; exact lH
 ·injection h with h; subst h; exact lI
 ·injection h with h; subst h; exact lJ
 ·injection h with h; subst h; exact lK
 ·injection h with h; subst h; exact lL
 ·injection h with h; subst h; exact lM
 ·injection h with h; subst h; exact lN
 ·injection h with h; subst h; exact lO
 ·injection h with h; subst h; exact lP
 ·injection h with h; subst h; exact lQ
 ·injection h with h; subst h; exact lR
 ·injection h with h; subst h; exact lS
 ·injection h with h; subst h; exact lT
 ·injection h with h; subst h; exact lU
 ·injection h with h; subst h; exact lV
 ·injection h with h; subst h; exact lW
 ·injection h with h; subst h; exact lX
 ·injection h with h; subst h; exact lY
 ·injection h with h; subst h; exact lZ
 ·injection h with h; subst h; exact l5
 ·injection h with h; subst h; exact l6
 ·injection h with h; subst h; exact l7
 ·injection h with h; subst h; exact fC
 ·injection h with h; subst h; exact fD
 ·injection h with h; subst h; exact fE
 ·injection h with h; subst h; exact fF
 ·injection h with h; subst h; exact fG
 ·injection h with h; subst h; exact fH
 ·injection h with h; subst h; exact fI
 ·injection h with h; subst h; exact fJ
 ·injection h with h; subst h; exact fK
 ·injection h with h; subst h; exact fL
 ·injection h with h; subst h; exact fM
 ·injection h with h; subst h; exact fN
 ·injection h with h; subst h; exact fO
 ·injection h with h; subst h; exact fP
 ·cases h
theorem mixed : Tryz.prog.follows .mixedOrders = true := by kernel_rfl
abbrev Bj (f : Nat) (bx : List Nat) (base : List (Nat × Nat)) (cn : List (Nat × List Nat)) (fn : Func) : Prop := Lit Tryz.prog f fn.ntmps bx fn.results.toList (SP base cn (cdF fn))
section
variable {nt : Nat} {bx cns : List Nat} {Q : Exit -> PS -> Prop} {l l' y : LC} {L L' : PL} {σ : PS} {ops : List LO} {fps : List (List Nat × List Nat)} {es : List (List Nat)}
theorem rn (n : Nat) (h : lB tb n l L = some (l',L')) (k : LS Tryz.prog nt bx l' (ofL L') Q) : LS Tryz.prog nt bx l (ofL L) Q := Yx ER h k
theorem rs (h : evS Tryz.prog tb cns ops σ (fun σ' => LS Tryz.prog nt bx y σ' Q)) : LS Tryz.prog nt bx (.seq (.rgn cns ops) y) σ Q := dy ER h
theorem rk (h : ∀ K : PS -> Prop,(∀ σ',LS Tryz.prog nt bx y σ' Q -> K σ') -> evS Tryz.prog tb cns ops σ K) : LS Tryz.prog nt bx (.seq (.rgn cns ops) y) σ Q := dz ER h
theorem rg (h : evS Tryz.prog tb cns ops σ (Q .normal)) : LS Tryz.prog nt bx (.rgn cns ops) σ Q := bL ER h
theorem rd (hD : (okD fps es ops && okF cns fps ops) = true) (h : evD Tryz.prog tb cns fps ops σ (fun σ' => LS Tryz.prog nt bx y σ' Q)) : LS Tryz.prog nt bx (.seq (.drw cns fps es ops) y) σ Q := jS ER mixed hD h
theorem rdk (hD : (okD fps es ops && okF cns fps ops) = true) (h : ∀ K : PS -> Prop,(∀ σ',LS Tryz.prog nt bx y σ' Q -> K σ') -> evD Tryz.prog tb cns fps ops σ K) : LS Tryz.prog nt bx (.seq (.drw cns fps es ops) y) σ Q := dx ER mixed hD h
theorem rgd (hD : (okD fps es ops && okF cns fps ops) = true) (h : evD Tryz.prog tb cns fps ops σ (Q .normal)) : LS Tryz.prog nt bx (.drw cns fps es ops) σ Q := bK ER mixed hD h
theorem st {f : Nat} {fn : Func} {base : List (Nat × Nat)} {cn : List (Nat × List Nat)} {args : List V} {r : V} (hl : Bj f bx base cn fn) (h0 : (Nat.ble args.length fn.ntmps && (args.all OM && okR (Wp 0 args))) = true) (h : LS Tryz.prog fn.ntmps bx (SP base cn (cdF fn)) (ofL (Wp 0 args)) (kt tb fn.results.toList r)) : Ai Tryz.prog f args r := by
 simp only [Bool.and_eq_true] at h0
 exact YL ER hl (nb h0.1) h0.2.1 (qi args h0.2.2 h)
theorem rt (p : Nat) (hD : (okD fps es ops && (okF cns fps ops && okT p es ops)) = true) (h : evD Tryz.prog tb cns (fps.take p) (ops.take p) σ (fun σ' => Gh Tryz.prog nt bx σ' (fun σ2 => evS Tryz.prog tb cns (ops.drop p) σ2 (fun σ' => LS Tryz.prog nt bx y σ' Q)))) : LS Tryz.prog nt bx (.seq (.drw cns fps es ops) y) σ Q := Ti (XU ER mixed p hD h)
theorem rgt (p : Nat) (hD : (okD fps es ops && (okF cns fps ops && okT p es ops)) = true) (h : evD Tryz.prog tb cns (fps.take p) (ops.take p) σ (fun σ' => Gh Tryz.prog nt bx σ' (fun σ2 => evS Tryz.prog tb cns (ops.drop p) σ2 (Q .normal)))) : LS Tryz.prog nt bx (.drw cns fps es ops) σ Q := XU ER mixed p hD h
theorem p8 {f : Nat} {fn : Func} {base : List (Nat × Nat)} {cn : List (Nat × List Nat)} {cs args args' cs' : List V} (hl : Bj f bx base cn fn) (hr : fn.results.toList = []) (h0 : (Nat.ble (args.length + 1) fn.ntmps && ((bx.contains 0 && bx.contains Od) && okR (Wp 0 (.box cs :: args')))) = true) (ha : args.all Hd = true) (he : args.map NX = args') (hd : AX cs = true) (hd' : AX cs' = true) (h : LS Tryz.prog fn.ntmps bx (SP base cn (cdF fn)) (ofL (Wp 0 (.box cs :: args'))) (o8 tb fn.results.toList (.tup []) cs')) : co Tryz.prog f cs args cs' := by
 subst he
 rw [Bool.and_eq_true,Bool.and_eq_true] at h0
 exact au ER hl (nb h0.1) h0.2.1 ha hr hd hd' (qi _ h0.2.2 h)
theorem sta {f : Nat} {fn : Func} {base : List (Nat × Nat)} {cn : List (Nat × List Nat)} {args args' : List V} {r : V} (hl : Bj f bx base cn fn) (h0 : (Nat.ble args.length fn.ntmps && okR (Wp 0 args')) = true) (ha : args.all Hd = true) (he : args.map NX = args') (hr : ZB r = true) (h : LS Tryz.prog fn.ntmps bx (SP base cn (cdF fn)) (ofL (Wp 0 args')) (kt tb fn.results.toList r)) : Ai Tryz.prog f args r := by
 subst he
 simp only [Bool.and_eq_true] at h0
 exact WC ER hl (nb h0.1) ha hr (qi _ h0.2 h)
end
end Go.Proofs.YtpcbnmcfplioeaaGreat
