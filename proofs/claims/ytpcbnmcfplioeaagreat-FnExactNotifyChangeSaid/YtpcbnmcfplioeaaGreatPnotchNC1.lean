/-
 The law of NotifyChange on typed functions. No conditions.
-/
import Derived.Test.YtpcbnmcfplioeaaGreatNpNC1
namespace Go.Proofs.YtpcbnmcfplioeaaGreat
open Go.RowKit
set_option linter.unusedVariables false
set_option linter.unusedSimpArgs false
set_option maxRecDepth 100000
theorem OT {a0 : Y62} {a1 : Y65} (k0 : lp a0) (k1 : lq a1) : Dt a0 a1 = some true:=by
 unfold Dt
 obtain ⟨v0,e0,p0⟩:=UO k0 (left:=1048576) (by omega)
 rw [e0]
 rcases p0 with p0 | ⟨x0,p0,s0⟩
 ·simp only [Ad]; rw [decide_eq_true p0]; rfl
 simp only [Ad]
 rw [decide_eq_false (by omega : ¬ v0 < 0)]
 obtain ⟨v1,e1,p1⟩:=aM k1 (left:=v0) (by omega)
 rw [e1]
 rcases p1 with p1 | ⟨x1,p1,s1⟩
 ·simp only [Ad]; rw [decide_eq_true p1]; rfl
 simp only [Ad,cond_false]
 rw [decide_eq_false (by omega : ¬ v1 < 0)]
 rw [cond_false]
 obtain ⟨r,hs,hi,y0,y1,tr⟩:=Ox s0 s1 k0 k1
 have b0:=OE a0
 have m0:=JI (x:=a0) (k:=1) (by omega) (by unfold mB; omega)
 have b1:=Xg a1
 have m1:=OW (x:=a1) (k:=1 + (Rz a0 : Int)) (by omega) (by unfold mB; omega)
 have z0 : ¬ (1 + (Rz a0 : Int) + (Za a1 : Int) < 0):=by omega
 have c0:=OE r.1
 have n0:=JI (x:=r.1) (k:=1) (by omega) (by unfold mB; omega)
 have h0:=Un (x:=r.1) (k:=1) y0 (by omega) (by unfold mB; omega)
 have u0 : ¬ (1 + (Rz r.1 : Int) < 0):=by omega
 have c1:=Ju r.2.1
 have n1:=JG (x:=r.2.1) (k:=1 + (Rz r.1 : Int)) (by omega) (by unfold mB; omega)
 have h1:=Jx (x:=r.2.1) (k:=1 + (Rz r.1 : Int)) y1 (by omega) (by unfold mB; omega)
 have u1 : ¬ (1 + (Rz r.1 : Int) + (T5 r.2.1 : Int) < 0):=by omega
 simp [Ad,hs,hi,UQ s0,PV s0,m0,aU s1,ZI s1,m1,z0,n0,PV y0,h0,u0,n1,Jw y1,h1,u1]
end Go.Proofs.YtpcbnmcfplioeaaGreat
