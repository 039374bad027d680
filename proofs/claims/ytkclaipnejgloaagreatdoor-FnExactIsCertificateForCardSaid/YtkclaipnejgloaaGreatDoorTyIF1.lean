/-
 How the laws' arguments read as the machine's data, printed by genlaw.py. No conditions.
-/
import Derived.Test.YtkclaipnejgloaaGreatDoorKc
import Derived.Test.YtkclaipnejgloaaGreatDoorGenIF1
namespace Go.Proofs.YtkclaipnejgloaaGreatDoor
open Go.RowKit Go.ChangeShapes Go.WideShapes Go.Deep
set_option linter.unusedVariables false
set_option maxRecDepth 100000
def aM (x : List (List Int)) : List V:=[dL AL x]
def YO (x : List Y75) : List V:=[dL IE x]
def YP (x : List Y75) : List V:=[dL IE x]
def aL (x : List Y78) : List V:=[dL MW x]
def fO (x : List Br) : List V:=[dL OA x]
section
variable {H : Type} {enc : TypeId × Value -> H} {w : World} {base : Nat} {spare : Nat -> Bool} {held : Bool}
def ZC (x : List Int) : Prop:=x.length <= maxLen ∧ ∀ a ∈ x,InI a
theorem dv : Opens enc Tryz.prog w base spare held 26 AL ZC:=LV Tryz.underlying26 (by kernel_rfl) (Nat.le_of_ble_eq_true rfl) Ao (IS Tryz.underlying3)
def ju (x : List (List Int)) : Prop:=x.length <= maxLen ∧ ∀ a ∈ x,ZC a
theorem kV : Opens enc Tryz.prog w base spare held 56 aM ju:=LV Tryz.underlying56 (by kernel_rfl) (Nat.le_of_ble_eq_true rfl) AY dv
def jv (x : Y57) : Prop:=InI x.1 ∧ ju x.2
theorem kW : Opens enc Tryz.prog w base spare held 74 O7 jv:=by
 intro fuel cs x h
 have hl : cs.length = 2:=(st_len Tryz.underlying74 h).trans (by kernel_rfl)
 obtain ⟨y0,n0,h0⟩:=E1 Tryz.underlying74 h (j:=0) rfl
 rw [show Tryz.prog.cellsOf _ = 1 from by kernel_rfl] at h0
 obtain ⟨a0,r0,k0⟩:=(IS Tryz.underlying3) _ _ _ h0
 obtain ⟨y1,n1,h1⟩:=E1 Tryz.underlying74 h (j:=1) rfl
 rw [show Tryz.prog.cellsOf _ = 1 from by kernel_rfl] at h1
 obtain ⟨a1,r1,k1⟩:=kV _ _ _ h1
 refine ⟨(a0,a1),?_,k0,k1⟩
 exact (DF (off:=0) (n:=1) r0 (DF (off:=1) (n:=1) r1 (Lq hl)))
def jw (x : Y75) : Prop:=List.length x.1 <= maxLen ∧ jv x.2
theorem kX : Opens enc Tryz.prog w base spare held 76 IE jw:=by
 intro fuel cs x h
 have hl : cs.length = 3:=(st_len Tryz.underlying76 h).trans (by kernel_rfl)
 obtain ⟨y0,n0,h0⟩:=E1 Tryz.underlying76 h (j:=0) rfl
 rw [show Tryz.prog.cellsOf _ = 1 from by kernel_rfl] at h0
 obtain ⟨a0,r0,k0⟩:=(QQ Tryz.underlying9) _ _ _ h0
 obtain ⟨y1,n1,h1⟩:=E1 Tryz.underlying76 h (j:=1) rfl
 rw [show Tryz.prog.cellsOf _ = 2 from by kernel_rfl] at h1
 obtain ⟨a1,r1,k1⟩:=kW _ _ _ h1
 refine ⟨(a0,a1),?_,k0,k1⟩
 exact (DF (off:=0) (n:=1) r0 (DF (off:=1) (n:=2) r1 (Lq hl)))
def jr (x : List Y75) : Prop:=x.length <= maxLen ∧ ∀ a ∈ x,jw a
theorem kP : Opens enc Tryz.prog w base spare held 22 YO jr:=LV Tryz.underlying22 (by kernel_rfl) (Nat.le_of_ble_eq_true rfl) Si kX
def eP (x : List Y75) : Prop:=jr x
theorem kQ : Opens enc Tryz.prog w base spare held 24 YP eP:=by
 intro fuel cs x h
 have hl : cs.length = 1:=(st_len Tryz.underlying24 h).trans (by kernel_rfl)
 obtain ⟨y0,n0,h0⟩:=E1 Tryz.underlying24 h (j:=0) rfl
 rw [show Tryz.prog.cellsOf _ = 1 from by kernel_rfl] at h0
 obtain ⟨a0,r0,k0⟩:=kP _ _ _ h0
 refine ⟨a0,?_,k0⟩
 exact (DF (off:=0) (n:=1) r0 (Lq hl))
def jx (x : Y78) : Prop:=List.length x.1 <= maxLen ∧ ZC x.2
theorem kY : Opens enc Tryz.prog w base spare held 79 MW jx:=by
 intro fuel cs x h
 have hl : cs.length = 2:=(st_len Tryz.underlying79 h).trans (by kernel_rfl)
 obtain ⟨y0,n0,h0⟩:=E1 Tryz.underlying79 h (j:=0) rfl
 rw [show Tryz.prog.cellsOf _ = 1 from by kernel_rfl] at h0
 obtain ⟨a0,r0,k0⟩:=(QQ Tryz.underlying9) _ _ _ h0
 obtain ⟨y1,n1,h1⟩:=E1 Tryz.underlying79 h (j:=1) rfl
 rw [show Tryz.prog.cellsOf _ = 1 from by kernel_rfl] at h1
 obtain ⟨a1,r1,k1⟩:=dv _ _ _ h1
 refine ⟨(a0,a1),?_,k0,k1⟩
 exact (DF (off:=0) (n:=1) r0 (DF (off:=1) (n:=1) r1 (Lq hl)))
def js (x : List Y78) : Prop:=x.length <= maxLen ∧ ∀ a ∈ x,jx a
theorem kR : Opens enc Tryz.prog w base spare held 25 aL js:=LV Tryz.underlying25 (by kernel_rfl) (Nat.le_of_ble_eq_true rfl) Wb kY
def eQ (x : Y27) : Prop:=InI x.1 ∧ js x.2.1 ∧ ZC x.2.2
theorem kS : Opens enc Tryz.prog w base spare held 28 Le eQ:=by
 intro fuel cs x h
 have hl : cs.length = 3:=(st_len Tryz.underlying28 h).trans (by kernel_rfl)
 obtain ⟨y0,n0,h0⟩:=E1 Tryz.underlying28 h (j:=0) rfl
 rw [show Tryz.prog.cellsOf _ = 1 from by kernel_rfl] at h0
 obtain ⟨a0,r0,k0⟩:=(IS Tryz.underlying3) _ _ _ h0
 obtain ⟨y1,n1,h1⟩:=E1 Tryz.underlying28 h (j:=1) rfl
 rw [show Tryz.prog.cellsOf _ = 1 from by kernel_rfl] at h1
 obtain ⟨a1,r1,k1⟩:=kR _ _ _ h1
 obtain ⟨y2,n2,h2⟩:=E1 Tryz.underlying28 h (j:=2) rfl
 rw [show Tryz.prog.cellsOf _ = 1 from by kernel_rfl] at h2
 obtain ⟨a2,r2,k2⟩:=dv _ _ _ h2
 refine ⟨(a0,a1,a2),?_,k0,k1,k2⟩
 exact (DF (off:=0) (n:=1) r0 (DF (off:=1) (n:=1) r1 (DF (off:=2) (n:=1) r2 (Lq hl))))
def dn (x : Br) : Prop:=InI x.1 ∧ InI x.2
theorem jy : Opens enc Tryz.prog w base spare held 103 OA dn:=by
 intro fuel cs x h
 have hl : cs.length = 2:=(st_len Tryz.underlying103 h).trans (by kernel_rfl)
 obtain ⟨y0,n0,h0⟩:=E1 Tryz.underlying103 h (j:=0) rfl
 rw [show Tryz.prog.cellsOf _ = 1 from by kernel_rfl] at h0
 obtain ⟨a0,r0,k0⟩:=(IS Tryz.underlying3) _ _ _ h0
 obtain ⟨y1,n1,h1⟩:=E1 Tryz.underlying103 h (j:=1) rfl
 rw [show Tryz.prog.cellsOf _ = 1 from by kernel_rfl] at h1
 obtain ⟨a1,r1,k1⟩:=(IS Tryz.underlying3) _ _ _ h1
 refine ⟨(a0,a1),?_,k0,k1⟩
 exact (DF (off:=0) (n:=1) r0 (DF (off:=1) (n:=1) r1 (Lq hl)))
def jt (x : List Br) : Prop:=x.length <= maxLen ∧ ∀ a ∈ x,dn a
theorem kT : Opens enc Tryz.prog w base spare held 29 fO jt:=LV Tryz.underlying29 (by kernel_rfl) (Nat.le_of_ble_eq_true rfl) YC jy
def dp (x : Y30) : Prop:=ZC x.1 ∧ jt x.2.1 ∧ ZC x.2.2.1 ∧ InI x.2.2.2.1 ∧ InI x.2.2.2.2
theorem kU : Opens enc Tryz.prog w base spare held 31 Lf dp:=by
 intro fuel cs x h
 have hl : cs.length = 5:=(st_len Tryz.underlying31 h).trans (by kernel_rfl)
 obtain ⟨y0,n0,h0⟩:=E1 Tryz.underlying31 h (j:=0) rfl
 rw [show Tryz.prog.cellsOf _ = 1 from by kernel_rfl] at h0
 obtain ⟨a0,r0,k0⟩:=dv _ _ _ h0
 obtain ⟨y1,n1,h1⟩:=E1 Tryz.underlying31 h (j:=1) rfl
 rw [show Tryz.prog.cellsOf _ = 1 from by kernel_rfl] at h1
 obtain ⟨a1,r1,k1⟩:=kT _ _ _ h1
 obtain ⟨y2,n2,h2⟩:=E1 Tryz.underlying31 h (j:=2) rfl
 rw [show Tryz.prog.cellsOf _ = 1 from by kernel_rfl] at h2
 obtain ⟨a2,r2,k2⟩:=dv _ _ _ h2
 obtain ⟨y3,n3,h3⟩:=E1 Tryz.underlying31 h (j:=3) rfl
 rw [show Tryz.prog.cellsOf _ = 1 from by kernel_rfl] at h3
 obtain ⟨a3,r3,k3⟩:=(IS Tryz.underlying3) _ _ _ h3
 obtain ⟨y4,n4,h4⟩:=E1 Tryz.underlying31 h (j:=4) rfl
 rw [show Tryz.prog.cellsOf _ = 1 from by kernel_rfl] at h4
 obtain ⟨a4,r4,k4⟩:=(IS Tryz.underlying3) _ _ _ h4
 refine ⟨(a0,a1,a2,a3,a4),?_,k0,k1,k2,k3,k4⟩
 exact (DF (off:=0) (n:=1) r0 (DF (off:=1) (n:=1) r1 (DF (off:=2) (n:=1) r2 (DF (off:=3) (n:=1) r3 (DF (off:=4) (n:=1) r4 (Lq hl))))))
end
end Go.Proofs.YtkclaipnejgloaaGreatDoor
