/-
 The law of IsCertificateFor on typed functions. No conditions.
-/
import Derived.Test.YtkclaipnejgloaaGreatDoorIfPIF1
namespace Go.Proofs.YtkclaipnejgloaaGreatDoor
open Go.RowKit
set_option linter.unusedVariables false
set_option linter.unusedSimpArgs false
set_option maxRecDepth 100000
theorem KS {a0 : List Y75} {a1 : Y27} {a2 : Y30} (k0 : eP a0) (k1 : eQ a1) (k2 : dp a2) : Co a0 a1 a2 = some true:=by
 unfold Co
 obtain ⟨v0,e0,p0⟩:=Sb k0 (left:=1048576) (by omega)
 rw [e0]
 rcases p0 with p0 | ⟨x0,p0,s0⟩
 ·simp only [Ad]; rw [decide_eq_true p0]; rfl
 simp only [Ad]
 rw [decide_eq_false (by omega : ¬ v0 < 0)]
 obtain ⟨v1,e1,p1⟩:=Xp k1 (left:=v0) (by omega)
 rw [e1]
 rcases p1 with p1 | ⟨x1,p1,s1⟩
 ·simp only [Ad]; rw [decide_eq_true p1]; rfl
 simp only [Ad,cond_false]
 rw [decide_eq_false (by omega : ¬ v1 < 0)]
 obtain ⟨v2,e2,p2⟩:=OZ k2 (left:=v1) (by omega)
 rw [e2]
 rcases p2 with p2 | ⟨x2,p2,s2⟩
 ·simp only [Ad]; rw [decide_eq_true p2]; rfl
 simp only [Ad,cond_false]
 rw [decide_eq_false (by omega : ¬ v2 < 0)]
 rw [cond_false]
 obtain ⟨r,hs,hi⟩:=Kw s0 s1 s2 k0 k1 k2
 simp [Ad,hs,hi,Se s0,RG s0,Xx s1,Wz s1,O1 s2,OC s2]
end Go.Proofs.YtkclaipnejgloaaGreatDoor
