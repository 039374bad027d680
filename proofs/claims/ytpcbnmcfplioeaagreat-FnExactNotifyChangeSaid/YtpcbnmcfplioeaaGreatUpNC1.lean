/-
 The laws' arguments as data that stay whole, printed by genlaw.py. No conditions.
-/
import Derived.Test.YtpcbnmcfplioeaaGreatKc
import Derived.Test.YtpcbnmcfplioeaaGreatMfNC1
namespace Go.Proofs.YtpcbnmcfplioeaaGreat
open Go.RowKit
set_option linter.unusedVariables false
def FN (x : List Int) : List V := [aL As x]
theorem cj (x : List Int) : (FN x).length = 1 := rfl
theorem Cv (x : List Int) : erL (FN x) = AJ x := (erc (erG An _) rfl)
theorem F9 (x : List Int) : E8 (FN x) = true := (acc (aca (fun _ => rfl) _) rfl)
def W0 (x : Y32) : List V := [nI x.1,dL AJ x.2]
abbrev Kx := (List UInt8) × Y32
def Gr (x : Kx) : List V := [.str x.1,nI x.2.1,dL AJ x.2.2]
theorem SM (x : Kx) : (Gr x).length = 3 := rfl
theorem Pa (x : Kx) : erL (Gr x) = Gr x := (erc rfl (erc rfl (erc (erD Ar _) rfl)))
def LG (x : Kx) : List V := [.str x.1,nI x.2.1,aL FN x.2.2]
theorem Nl (x : Kx) : erL (LG x) = Gr x := (erc rfl (erc rfl (erc (erG Cv _) rfl)))
def cF (x : List Kx) : List V := [dL Gr x]
def cG (x : List Kx) : List V := [dL Gr x]
def Jt (x : CA) : List V := [.str x.1,dL As x.2]
theorem UR (x : CA) : (Jt x).length = 2 := rfl
theorem MJ (x : CA) : erL (Jt x) = Jt x := (erc rfl (erc (erD An _) rfl))
def U3 (x : CA) : List V := [.str x.1,aL As x.2]
theorem cP (x : CA) : erL (U3 x) = Jt x := (erc rfl (erc (erG An _) rfl))
def cE (x : List CA) : List V := [dL Jt x]
theorem ZQ (x : CA) : E8 (U3 x) = true := (acc rfl (acc (aca (fun _ => rfl) _) rfl))
abbrev WE := Int × (List CA) × (List Int)
def Rq (x : WE) : List V := [nI x.1,dL Jt x.2.1,dL As x.2.2]
def Gb (x : Y43) : List V := [nI x.1,dL AJ x.2.1,dL As x.2.2]
theorem Qx (x : Y43) : (Gb x).length = 3 := rfl
theorem S7 (x : Y43) : erL (Gb x) = Gb x := (erc rfl (erc (erD Ar _) (erc (erD An _) rfl)))
def J4 (x : Y43) : List V := [nI x.1,aL FN x.2.1,aL As x.2.2]
theorem LI (x : Y43) : erL (J4 x) = Gb x := (erc rfl (erc (erG Cv _) (erc (erG An _) rfl)))
abbrev MF := WE × Y43
def Ce (x : MF) : List V := [nI x.1.1,dL Jt x.1.2.1,dL As x.1.2.2,nI x.2.1,dL AJ x.2.2.1,dL As x.2.2.2]
theorem Md (x : MF) : (Ce x).length = 6 := rfl
theorem OG (x : MF) : erL (Ce x) = Ce x := (erc rfl (erc (erD MJ _) (erc (erD An _) (erc rfl (erc (erD Ar _) (erc (erD An _) rfl))))))
def Gq (x : MF) : List V := [nI x.1.1,aL U3 x.1.2.1,aL As x.1.2.2,nI x.2.1,aL FN x.2.2.1,aL As x.2.2.2]
theorem Iw (x : MF) : erL (Gq x) = Ce x := (erc rfl (erc (erG cP _) (erc (erG An _) (erc rfl (erc (erG Cv _) (erc (erG An _) rfl))))))
def T0 (x : List MF) : List V := [dL Ce x]
def Zt (x : List Y43) : List V := [dL Gb x]
abbrev Y62 := (List Kx) × (List MF) × (List Y43)
def Gd (x : Y62) : List V := [dL Gr x.1,dL Ce x.2.1,dL Gb x.2.2]
def J5 (x : Y62) : List V := [aL LG x.1,aL Gq x.2.1,aL J4 x.2.2]
abbrev Y65 := (List UInt8) × Y32 × Y32
def O9 (x : Y65) : List V := [.str x.1,nI x.2.1.1,dL AJ x.2.1.2,nI x.2.2.1,dL AJ x.2.2.2]
def U4 (x : Y65) : List V := [.str x.1,nI x.2.1.1,aL FN x.2.1.2,nI x.2.2.1,aL FN x.2.2.2]
theorem bb (x : List Int) : E8 (FN x) = true := (adc (ada (fun _ => rfl) _) rfl)
theorem kV (x : List Int) : Ups (AJ x) (FN x) := (upc (VZ PM _) upn)
theorem Zi (x : Kx) : E8 (LG x) = true := (adc rfl (adc rfl (adc (ada F9 _) rfl)))
theorem oI (x : Kx) : Ups (Gr x) (LG x) := (upc ⟨rfl,rfl⟩ (upc ⟨rfl,rfl⟩ (upc (VZ kV _) upn)))
theorem oJ (x : CA) : Ups (Jt x) (U3 x) := (upc ⟨rfl,rfl⟩ (upc (VZ PM _) upn))
theorem Zg (x : Y43) : E8 (J4 x) = true := (adc rfl (adc (ada F9 _) (adc (ada (fun _ => rfl) _) rfl)))
theorem oG (x : Y43) : Ups (Gb x) (J4 x) := (upc ⟨rfl,rfl⟩ (upc (VZ kV _) (upc (VZ PM _) upn)))
theorem Zh (x : MF) : E8 (Gq x) = true := (adc rfl (adc (ada ZQ _) (adc (ada (fun _ => rfl) _) (adc rfl (adc (ada F9 _) (adc (ada (fun _ => rfl) _) rfl))))))
theorem oH (x : MF) : Ups (Ce x) (Gq x) := (upc ⟨rfl,rfl⟩ (upc (VZ oJ _) (upc (VZ PM _) (upc ⟨rfl,rfl⟩ (upc (VZ kV _) (upc (VZ PM _) upn))))))
theorem p9 (x : Y62) : Ups (Gd x) (J5 x) := (upc (VZ oI _) (upc (VZ oH _) (upc (VZ oG _) upn)))
theorem qb (x : Y65) : Ups (O9 x) (U4 x) := (upc ⟨rfl,rfl⟩ (upc ⟨rfl,rfl⟩ (upc (VZ kV _) (upc ⟨rfl,rfl⟩ (upc (VZ kV _) upn)))))
end Go.Proofs.YtpcbnmcfplioeaaGreat
