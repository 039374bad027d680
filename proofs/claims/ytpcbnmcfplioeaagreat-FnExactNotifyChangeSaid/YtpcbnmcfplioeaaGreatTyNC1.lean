/-
 How the laws' arguments read as the machine's data, printed by genlaw.py. No conditions.
-/
import Derived.Test.YtpcbnmcfplioeaaGreatKc
import Derived.Test.YtpcbnmcfplioeaaGreatGenNC1
namespace Go.Proofs.YtpcbnmcfplioeaaGreat
open Go.RowKit Go.ChangeShapes Go.WideShapes Go.Deep
set_option linter.unusedVariables false
set_option maxRecDepth 100000
section
variable {H : Type} {enc : TypeId × Value -> H} {w : World} {base : Nat} {spare : Nat -> Bool} {held : Bool}
def ft (x : List Int) : Prop := x.length <= maxLen ∧ ∀ a ∈ x,InI a
theorem lr : Opens enc Tryz.prog w base spare held 42 AJ ft := Mj Tryz.underlying42 (by kernel_rfl) (Nat.le_of_ble_eq_true rfl) AM (NC Tryz.underlying3)
def ln (x : List (List Int)) : Prop := x.length <= maxLen ∧ ∀ a ∈ x,ft a
theorem o5 : Opens enc Tryz.prog w base spare held 31 fT ln := Mj Tryz.underlying31 (by kernel_rfl) (Nat.le_of_ble_eq_true rfl) Br lr
def kh (x : Y32) : Prop := InI x.1 ∧ ln x.2
theorem ox : Opens enc Tryz.prog w base spare held 64 W0 kh := by
 intro fuel cs x h
 have hl : cs.length = 2 := (st_len Tryz.underlying64 h).trans (by kernel_rfl)
 obtain ⟨y0,n0,h0⟩ := Da Tryz.underlying64 h (j := 0) rfl
 rw [show Tryz.prog.cellsOf _ = 1 from by kernel_rfl] at h0
 obtain ⟨a0,r0,k0⟩ := (NC Tryz.underlying3) _ _ _ h0
 obtain ⟨y1,n1,h1⟩ := Da Tryz.underlying64 h (j := 1) rfl
 rw [show Tryz.prog.cellsOf _ = 1 from by kernel_rfl] at h1
 obtain ⟨a1,r1,k1⟩ := o5 _ _ _ h1
 refine ⟨(a0,a1),?_,k0,k1⟩
 exact (BZ (off := 0) (n := 1) r0 (BZ (off := 1) (n := 1) r1 (Lj hl)))
def dS (x : Kx) : Prop := List.length x.1 <= maxLen ∧ kh x.2
theorem ou : Opens enc Tryz.prog w base spare held 190 Gr dS := by
 intro fuel cs x h
 have hl : cs.length = 3 := (st_len Tryz.underlying190 h).trans (by kernel_rfl)
 obtain ⟨y0,n0,h0⟩ := Da Tryz.underlying190 h (j := 0) rfl
 rw [show Tryz.prog.cellsOf _ = 1 from by kernel_rfl] at h0
 obtain ⟨a0,r0,k0⟩ := (Ql Tryz.underlying9) _ _ _ h0
 obtain ⟨y1,n1,h1⟩ := Da Tryz.underlying190 h (j := 1) rfl
 rw [show Tryz.prog.cellsOf _ = 2 from by kernel_rfl] at h1
 obtain ⟨a1,r1,k1⟩ := ox _ _ _ h1
 refine ⟨(a0,a1),?_,k0,k1⟩
 exact (BZ (off := 0) (n := 1) r0 (BZ (off := 1) (n := 2) r1 (Lj hl)))
def og (x : List Kx) : Prop := x.length <= maxLen ∧ ∀ a ∈ x,dS a
theorem pO : Opens enc Tryz.prog w base spare held 57 cF og := Mj Tryz.underlying57 (by kernel_rfl) (Nat.le_of_ble_eq_true rfl) SM ou
def oh (x : List Kx) : Prop := og x
theorem pP : Opens enc Tryz.prog w base spare held 59 cG oh := by
 intro fuel cs x h
 have hl : cs.length = 1 := (st_len Tryz.underlying59 h).trans (by kernel_rfl)
 obtain ⟨y0,n0,h0⟩ := Da Tryz.underlying59 h (j := 0) rfl
 rw [show Tryz.prog.cellsOf _ = 1 from by kernel_rfl] at h0
 obtain ⟨a0,r0,k0⟩ := pO _ _ _ h0
 refine ⟨a0,?_,k0⟩
 exact (BZ (off := 0) (n := 1) r0 (Lj hl))
def dT (x : CA) : Prop := List.length x.1 <= maxLen ∧ ft x.2
theorem ov : Opens enc Tryz.prog w base spare held 214 Jt dT := by
 intro fuel cs x h
 have hl : cs.length = 2 := (st_len Tryz.underlying214 h).trans (by kernel_rfl)
 obtain ⟨y0,n0,h0⟩ := Da Tryz.underlying214 h (j := 0) rfl
 rw [show Tryz.prog.cellsOf _ = 1 from by kernel_rfl] at h0
 obtain ⟨a0,r0,k0⟩ := (Ql Tryz.underlying9) _ _ _ h0
 obtain ⟨y1,n1,h1⟩ := Da Tryz.underlying214 h (j := 1) rfl
 rw [show Tryz.prog.cellsOf _ = 1 from by kernel_rfl] at h1
 obtain ⟨a1,r1,k1⟩ := lr _ _ _ h1
 refine ⟨(a0,a1),?_,k0,k1⟩
 exact (BZ (off := 0) (n := 1) r0 (BZ (off := 1) (n := 1) r1 (Lj hl)))
def dP (x : List CA) : Prop := x.length <= maxLen ∧ ∀ a ∈ x,dT a
theorem oo : Opens enc Tryz.prog w base spare held 156 cE dP := Mj Tryz.underlying156 (by kernel_rfl) (Nat.le_of_ble_eq_true rfl) UR ov
def dQ (x : WE) : Prop := InI x.1 ∧ dP x.2.1 ∧ ft x.2.2
theorem oq : Opens enc Tryz.prog w base spare held 158 Rq dQ := by
 intro fuel cs x h
 have hl : cs.length = 3 := (st_len Tryz.underlying158 h).trans (by kernel_rfl)
 obtain ⟨y0,n0,h0⟩ := Da Tryz.underlying158 h (j := 0) rfl
 rw [show Tryz.prog.cellsOf _ = 1 from by kernel_rfl] at h0
 obtain ⟨a0,r0,k0⟩ := (NC Tryz.underlying3) _ _ _ h0
 obtain ⟨y1,n1,h1⟩ := Da Tryz.underlying158 h (j := 1) rfl
 rw [show Tryz.prog.cellsOf _ = 1 from by kernel_rfl] at h1
 obtain ⟨a1,r1,k1⟩ := oo _ _ _ h1
 obtain ⟨y2,n2,h2⟩ := Da Tryz.underlying158 h (j := 2) rfl
 rw [show Tryz.prog.cellsOf _ = 1 from by kernel_rfl] at h2
 obtain ⟨a2,r2,k2⟩ := lr _ _ _ h2
 refine ⟨(a0,a1,a2),?_,k0,k1,k2⟩
 exact (BZ (off := 0) (n := 1) r0 (BZ (off := 1) (n := 1) r1 (BZ (off := 2) (n := 1) r2 (Lj hl))))
def ai (x : Y43) : Prop := InI x.1 ∧ ln x.2.1 ∧ ft x.2.2
theorem kl : Opens enc Tryz.prog w base spare held 159 Gb ai := by
 intro fuel cs x h
 have hl : cs.length = 3 := (st_len Tryz.underlying159 h).trans (by kernel_rfl)
 obtain ⟨y0,n0,h0⟩ := Da Tryz.underlying159 h (j := 0) rfl
 rw [show Tryz.prog.cellsOf _ = 1 from by kernel_rfl] at h0
 obtain ⟨a0,r0,k0⟩ := (NC Tryz.underlying3) _ _ _ h0
 obtain ⟨y1,n1,h1⟩ := Da Tryz.underlying159 h (j := 1) rfl
 rw [show Tryz.prog.cellsOf _ = 1 from by kernel_rfl] at h1
 obtain ⟨a1,r1,k1⟩ := o5 _ _ _ h1
 obtain ⟨y2,n2,h2⟩ := Da Tryz.underlying159 h (j := 2) rfl
 rw [show Tryz.prog.cellsOf _ = 1 from by kernel_rfl] at h2
 obtain ⟨a2,r2,k2⟩ := lr _ _ _ h2
 refine ⟨(a0,a1,a2),?_,k0,k1,k2⟩
 exact (BZ (off := 0) (n := 1) r0 (BZ (off := 1) (n := 1) r1 (BZ (off := 2) (n := 1) r2 (Lj hl))))
def dR (x : MF) : Prop := dQ x.1 ∧ ai x.2
theorem ot : Opens enc Tryz.prog w base spare held 161 Ce dR := by
 intro fuel cs x h
 have hl : cs.length = 6 := (st_len Tryz.underlying161 h).trans (by kernel_rfl)
 obtain ⟨y0,n0,h0⟩ := Da Tryz.underlying161 h (j := 0) rfl
 rw [show Tryz.prog.cellsOf _ = 3 from by kernel_rfl] at h0
 obtain ⟨a0,r0,k0⟩ := oq _ _ _ h0
 obtain ⟨y1,n1,h1⟩ := Da Tryz.underlying161 h (j := 1) rfl
 rw [show Tryz.prog.cellsOf _ = 3 from by kernel_rfl] at h1
 obtain ⟨a1,r1,k1⟩ := kl _ _ _ h1
 refine ⟨(a0,a1),?_,k0,k1⟩
 exact (BZ (off := 0) (n := 3) r0 (BZ (off := 3) (n := 3) r1 (Lj hl)))
def oi (x : List MF) : Prop := x.length <= maxLen ∧ ∀ a ∈ x,dR a
theorem pQ : Opens enc Tryz.prog w base spare held 60 T0 oi := Mj Tryz.underlying60 (by kernel_rfl) (Nat.le_of_ble_eq_true rfl) Md ot
def ol (x : List Y43) : Prop := x.length <= maxLen ∧ ∀ a ∈ x,ai a
theorem pR : Opens enc Tryz.prog w base spare held 61 Zt ol := Mj Tryz.underlying61 (by kernel_rfl) (Nat.le_of_ble_eq_true rfl) Qx kl
def lp (x : Y62) : Prop := oh x.1 ∧ oi x.2.1 ∧ ol x.2.2
theorem pS : Opens enc Tryz.prog w base spare held 63 Gd lp := by
 intro fuel cs x h
 have hl : cs.length = 3 := (st_len Tryz.underlying63 h).trans (by kernel_rfl)
 obtain ⟨y0,n0,h0⟩ := Da Tryz.underlying63 h (j := 0) rfl
 rw [show Tryz.prog.cellsOf _ = 1 from by kernel_rfl] at h0
 obtain ⟨a0,r0,k0⟩ := pP _ _ _ h0
 obtain ⟨y1,n1,h1⟩ := Da Tryz.underlying63 h (j := 1) rfl
 rw [show Tryz.prog.cellsOf _ = 1 from by kernel_rfl] at h1
 obtain ⟨a1,r1,k1⟩ := pQ _ _ _ h1
 obtain ⟨y2,n2,h2⟩ := Da Tryz.underlying63 h (j := 2) rfl
 rw [show Tryz.prog.cellsOf _ = 1 from by kernel_rfl] at h2
 obtain ⟨a2,r2,k2⟩ := pR _ _ _ h2
 refine ⟨(a0,a1,a2),?_,k0,k1,k2⟩
 exact (BZ (off := 0) (n := 1) r0 (BZ (off := 1) (n := 1) r1 (BZ (off := 2) (n := 1) r2 (Lj hl))))
def lq (x : Y65) : Prop := List.length x.1 <= maxLen ∧ kh x.2.1 ∧ kh x.2.2
theorem pT : Opens enc Tryz.prog w base spare held 66 O9 lq := by
 intro fuel cs x h
 have hl : cs.length = 5 := (st_len Tryz.underlying66 h).trans (by kernel_rfl)
 obtain ⟨y0,n0,h0⟩ := Da Tryz.underlying66 h (j := 0) rfl
 rw [show Tryz.prog.cellsOf _ = 1 from by kernel_rfl] at h0
 obtain ⟨a0,r0,k0⟩ := (Ql Tryz.underlying9) _ _ _ h0
 obtain ⟨y1,n1,h1⟩ := Da Tryz.underlying66 h (j := 1) rfl
 rw [show Tryz.prog.cellsOf _ = 2 from by kernel_rfl] at h1
 obtain ⟨a1,r1,k1⟩ := ox _ _ _ h1
 obtain ⟨y2,n2,h2⟩ := Da Tryz.underlying66 h (j := 2) rfl
 rw [show Tryz.prog.cellsOf _ = 2 from by kernel_rfl] at h2
 obtain ⟨a2,r2,k2⟩ := ox _ _ _ h2
 refine ⟨(a0,a1,a2),?_,k0,k1,k2⟩
 exact (BZ (off := 0) (n := 1) r0 (BZ (off := 1) (n := 2) r1 (BZ (off := 3) (n := 2) r2 (Lj hl))))
end
end Go.Proofs.YtpcbnmcfplioeaaGreat
