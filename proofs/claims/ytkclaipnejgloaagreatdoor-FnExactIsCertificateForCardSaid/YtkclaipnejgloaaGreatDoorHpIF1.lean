/-
 The laws' copies, comparisons and size checks on typed data, printed by genlaw.py. No conditions.
-/
import Derived.Test.YtkclaipnejgloaaGreatDoorGenIF1
import Derived.Test.YtkclaipnejgloaaGreatDoorTyIF1
namespace Go.Proofs.YtkclaipnejgloaaGreatDoor
open Go.RowKit
set_option linter.unusedVariables false
set_option linter.unusedSimpArgs false
def Kz (a : List Int) : Prop:=List.length a <= 1048576
def ML (a : List Int) : Nat:=List.length a
theorem Om {a : List Int} (h : Kz a) : E8 a = some a:=by
 unfold E8
 rw [Ar (N5 (Ft (show _ from h))),Oo (a:=a) (g:=some) (h:=id) (fun _ _ _ => rfl) (fun _ _ => rfl) (Ft (show _ from h))]
 simp only [Ad,List.map_id]
theorem NJ {a : List Int} (h : Kz a) : E7 a a = some true:=by
 unfold E7
 rw [NK (B:=Jl a a) (a:=a) (g:=(fun x y => some (x == y))) (fun _ _ => rfl) (fun _ _ => by simp) (Ft (show _ from h))]
 simp [Ad]
theorem Ol {a : List Int} (k : ZC a) {left : Int} (h : 0 <= left ∧ left <= 1048576) : SzR left (FG a left) (Kz a) (ML a):=Yx h k.1
def L4 (a : List (List Int)) : Prop:=List.length a <= 1048576 ∧ ∀ e ∈ a,Kz e
def Tt (a : List (List Int)) : Nat:=List.length a + tzL ML a
theorem Xw {a : List (List Int)} (h : L4 a) : H2 a = some a:=by
 unfold H2
 rw [Ar (N5 (Ft h.1)),Oo (a:=a) (g:=E8) (h:=id) (fun _ _ _ => rfl) (fun e he => Om (h.2 e he)) (Ft h.1)]
 simp only [Ad,List.map_id]
theorem Wy {a : List (List Int)} (h : L4 a) : HY a a = some true:=by
 unfold HY
 rw [NK (B:=IM a a) (a:=a) (g:=E7) (fun _ _ => rfl) (fun e he => NJ (h.2 e he)) (Ft h.1)]
 simp [Ad]
theorem Xo {a : List (List Int)} (k : ju a) {left : Int} (h : 0 <= left ∧ left <= 1048576) : SzR left (Ja a left) (L4 a) (Tt a):=Sd (B:=IOQ a) (g:=FG) (fun _ _ _ => rfl) (fun e he left h => Ol (k.2 e he) h) h k.1
def JY (a : Y57) : Prop:=L4 a.2
def Lx (a : Y57) : Nat:=Tt a.2
theorem Sg {a : Y57} (h : JY a) : Gp a = some a:=by
 unfold Gp
 simp only [Xw (h),Ad] <;> rfl
theorem RI {a : Y57} (h : JY a) : Gj a a = some true:=by
 simp [Gj,Wy (h),Ad]
theorem Sc {a : Y57} (k : jv a) {left : Int} (h : 0 <= left ∧ left <= 1048576) : SzR left (Gl a left) (JY a) (Lx a):=by
 unfold Gl
 have h0 : 0 <= left ∧ left <= 1048576:=h
 obtain ⟨v0,e0,p0⟩:=Xo (k.2) h0
 rw [e0]
 rcases p0 with p0 | ⟨p0,q0,s0⟩
 ·simp only [Ad]; rw [decide_eq_true p0]; exact ⟨-1,rfl,.inl (by omega)⟩
 simp only [Ad]
 rw [decide_eq_false (by omega : ¬ v0 < 0)]
 simp only [cond_false]
 exact ⟨v0,rfl,.inr ⟨by unfold Lx; omega,q0,s0⟩⟩
def Nm (a : Y75) : Prop:=List.length a.1 <= 1048576 ∧ JY a.2
def Qs (a : Y75) : Nat:=List.length a.1 + Lx a.2
theorem Xy {a : Y75} (h : Nm a) : Hh a = some a:=by
 unfold Hh
 simp only [Sg (h.2),Ad] <;> rfl
theorem WA {a : Y75} (h : Nm a) : Hf a a = some true:=by
 simp [Hf,RI (h.2),Ad]
theorem Xq {a : Y75} (k : jw a) {left : Int} (h : 0 <= left ∧ left <= 1048576) : SzR left (Hg a left) (Nm a) (Qs a):=by
 unfold Hg
 have h0 : 0 <= left ∧ left <= 1048576:=h
 obtain ⟨v0,e0,p0⟩:=eX h0 k.1
 rw [e0]
 rcases p0 with p0 | ⟨p0,q0,s0⟩
 ·simp only [Ad]; rw [decide_eq_true p0]; exact ⟨-1,rfl,.inl (by omega)⟩
 simp only [Ad]
 rw [decide_eq_false (by omega : ¬ v0 < 0)]
 simp only [cond_false]
 have h1 : 0 <= v0 ∧ v0 <= 1048576:=by omega
 obtain ⟨v1,e1,p1⟩:=Sc (k.2) h1
 rw [e1]
 rcases p1 with p1 | ⟨p1,q1,s1⟩
 ·simp only [Ad]; rw [decide_eq_true p1]; exact ⟨-1,rfl,.inl (by omega)⟩
 simp only [Ad]
 rw [decide_eq_false (by omega : ¬ v1 < 0)]
 simp only [cond_false]
 exact ⟨v1,rfl,.inr ⟨by unfold Qs; omega,q1,s0,s1⟩⟩
def L6 (a : List Y75) : Prop:=List.length a <= 1048576 ∧ ∀ e ∈ a,Nm e
def Rf (a : List Y75) : Nat:=List.length a + tzL Qs a
theorem V4 {a : List Y75} (h : L6 a) : Hr a = some a:=by
 unfold Hr
 rw [Ar (N5 (Ft h.1)),Oo (a:=a) (g:=Hh) (h:=id) (fun _ _ _ => rfl) (fun e he => Xy (h.2 e he)) (Ft h.1)]
 simp only [Ad,List.map_id]
theorem Uo {a : List Y75} (h : L6 a) : Ho a a = some true:=by
 unfold Ho
 rw [NK (B:=Ii a a) (a:=a) (g:=Hf) (fun _ _ => rfl) (fun e he => WA (h.2 e he)) (Ft h.1)]
 simp [Ad]
theorem V2 {a : List Y75} (k : jr a) {left : Int} (h : 0 <= left ∧ left <= 1048576) : SzR left (It a left) (L6 a) (Rf a):=Sd (B:=Ij a) (g:=Hg) (fun _ _ _ => rfl) (fun e he left h => Xq (k.2 e he) h) h k.1
def IV (a : List Y75) : Prop:=L6 a
def Ot (a : List Y75) : Nat:=Rf a
theorem Se {a : List Y75} (h : IV a) : Ey a = some a:=by
 unfold Ey
 simp only [V4 (h),Ad] <;> rfl
theorem RG {a : List Y75} (h : IV a) : Gi a a = some true:=by
 simp [Gi,Uo (h),Ad]
theorem Sb {a : List Y75} (k : eP a) {left : Int} (h : 0 <= left ∧ left <= 1048576) : SzR left (Gk a left) (IV a) (Ot a):=by
 unfold Gk
 have h0 : 0 <= left ∧ left <= 1048576:=h
 obtain ⟨v0,e0,p0⟩:=V2 (k) h0
 rw [e0]
 rcases p0 with p0 | ⟨p0,q0,s0⟩
 ·simp only [Ad]; rw [decide_eq_true p0]; exact ⟨-1,rfl,.inl (by omega)⟩
 simp only [Ad]
 rw [decide_eq_false (by omega : ¬ v0 < 0)]
 simp only [cond_false]
 exact ⟨v0,rfl,.inr ⟨by unfold Ot; omega,q0,s0⟩⟩
def Qg (a : Y78) : Prop:=List.length a.1 <= 1048576 ∧ Kz a.2
def Sh (a : Y78) : Nat:=List.length a.1 + ML a.2
theorem ae {a : Y78} (h : Qg a) : HG a = some a:=by
 unfold HG
 simp only [Om (h.2),Ad] <;> rfl
theorem YU {a : Y78} (h : Qg a) : HE a a = some true:=by
 simp [HE,NJ (h.2),Ad]
theorem Z9 {a : Y78} (k : jx a) {left : Int} (h : 0 <= left ∧ left <= 1048576) : SzR left (HF a left) (Qg a) (Sh a):=by
 unfold HF
 have h0 : 0 <= left ∧ left <= 1048576:=h
 obtain ⟨v0,e0,p0⟩:=eX h0 k.1
 rw [e0]
 rcases p0 with p0 | ⟨p0,q0,s0⟩
 ·simp only [Ad]; rw [decide_eq_true p0]; exact ⟨-1,rfl,.inl (by omega)⟩
 simp only [Ad]
 rw [decide_eq_false (by omega : ¬ v0 < 0)]
 simp only [cond_false]
 have h1 : 0 <= v0 ∧ v0 <= 1048576:=by omega
 obtain ⟨v1,e1,p1⟩:=Ol (k.2) h1
 rw [e1]
 rcases p1 with p1 | ⟨p1,q1,s1⟩
 ·simp only [Ad]; rw [decide_eq_true p1]; exact ⟨-1,rfl,.inl (by omega)⟩
 simp only [Ad]
 rw [decide_eq_false (by omega : ¬ v1 < 0)]
 simp only [cond_false]
 exact ⟨v1,rfl,.inr ⟨by unfold Sh; omega,q1,s0,s1⟩⟩
def Nl (a : List Y78) : Prop:=List.length a <= 1048576 ∧ ∀ e ∈ a,Qg e
def Ts (a : List Y78) : Nat:=List.length a + tzL Sh a
theorem Xv {a : List Y78} (h : Nl a) : H1 a = some a:=by
 unfold H1
 rw [Ar (N5 (Ft h.1)),Oo (a:=a) (g:=HG) (h:=id) (fun _ _ _ => rfl) (fun e he => ae (h.2 e he)) (Ft h.1)]
 simp only [Ad,List.map_id]
theorem Wx {a : List Y78} (h : Nl a) : HX a a = some true:=by
 unfold HX
 rw [NK (B:=IL a a) (a:=a) (g:=HE) (fun _ _ => rfl) (fun e he => YU (h.2 e he)) (Ft h.1)]
 simp [Ad]
theorem Xn {a : List Y78} (k : js a) {left : Int} (h : 0 <= left ∧ left <= 1048576) : SzR left (I9 a left) (Nl a) (Ts a):=Sd (B:=IN a) (g:=HF) (fun _ _ _ => rfl) (fun e he left h => Z9 (k.2 e he) h) h k.1
def L5 (a : Y27) : Prop:=Nl a.2.1 ∧ Kz a.2.2
def Tu (a : Y27) : Nat:=Ts a.2.1 + ML a.2.2
theorem Xx {a : Y27} (h : L5 a) : Gm a = some a:=by
 unfold Gm
 simp only [Xv (h.1),Om (h.2),Ad] <;> rfl
theorem Wz {a : Y27} (h : L5 a) : HZ a a = some true:=by
 simp [HZ,Wx (h.1),NJ (h.2),Ad]
theorem Xp {a : Y27} (k : eQ a) {left : Int} (h : 0 <= left ∧ left <= 1048576) : SzR left (H0 a left) (L5 a) (Tu a):=by
 unfold H0
 have h0 : 0 <= left ∧ left <= 1048576:=h
 obtain ⟨v0,e0,p0⟩:=Xn (k.2.1) h0
 rw [e0]
 rcases p0 with p0 | ⟨p0,q0,s0⟩
 ·simp only [Ad]; rw [decide_eq_true p0]; exact ⟨-1,rfl,.inl (by omega)⟩
 simp only [Ad]
 rw [decide_eq_false (by omega : ¬ v0 < 0)]
 simp only [cond_false]
 have h1 : 0 <= v0 ∧ v0 <= 1048576:=by omega
 obtain ⟨v1,e1,p1⟩:=Ol (k.2.2) h1
 rw [e1]
 rcases p1 with p1 | ⟨p1,q1,s1⟩
 ·simp only [Ad]; rw [decide_eq_true p1]; exact ⟨-1,rfl,.inl (by omega)⟩
 simp only [Ad]
 rw [decide_eq_false (by omega : ¬ v1 < 0)]
 simp only [cond_false]
 exact ⟨v1,rfl,.inr ⟨by unfold Tu; omega,q1,s0,s1⟩⟩
theorem Sf {a : Br} : Gn a = some a:=rfl
theorem RH {a : Br} : Fs a a = some true:=by
 simp [Fs,Ad]
def Je (a : List Br) : Prop:=List.length a <= 1048576
def MS (a : List Br) : Nat:=List.length a
theorem Rc {a : List Br} (h : Je a) : FQ a = some a:=by
 unfold FQ
 rw [Ar (N5 (Ft (show _ from h))),Oo (a:=a) (g:=Gn) (h:=id) (fun _ _ _ => rfl) (fun e he => Sf) (Ft (show _ from h))]
 simp only [Ad,List.map_id]
theorem QB {a : List Br} (h : Je a) : FP a a = some true:=by
 unfold FP
 rw [NK (B:=He a a) (a:=a) (g:=Fs) (fun _ _ => rfl) (fun e he => RH) (Ft (show _ from h))]
 simp [Ad]
theorem Rb {a : List Br} (k : jt a) {left : Int} (h : 0 <= left ∧ left <= 1048576) : SzR left (G7 a left) (Je a) (MS a):=Yx h k.1
def GV (a : Y30) : Prop:=Kz a.1 ∧ Je a.2.1 ∧ Kz a.2.2.1
def Ld (a : Y30) : Nat:=ML a.1 + MS a.2.1 + ML a.2.2.1
theorem O1 {a : Y30} (h : GV a) : Cy a = some a:=by
 unfold Cy
 simp only [Om (h.1),Rc (h.2.1),Om (h.2.2),Ad] <;> rfl
theorem OC {a : Y30} (h : GV a) : EU a a = some true:=by
 simp [EU,NJ (h.1),QB (h.2.1),NJ (h.2.2),Ad]
theorem OZ {a : Y30} (k : dp a) {left : Int} (h : 0 <= left ∧ left <= 1048576) : SzR left (EV a left) (GV a) (Ld a):=by
 unfold EV
 have h0 : 0 <= left ∧ left <= 1048576:=h
 obtain ⟨v0,e0,p0⟩:=Ol (k.1) h0
 rw [e0]
 rcases p0 with p0 | ⟨p0,q0,s0⟩
 ·simp only [Ad]; rw [decide_eq_true p0]; exact ⟨-1,rfl,.inl (by omega)⟩
 simp only [Ad]
 rw [decide_eq_false (by omega : ¬ v0 < 0)]
 simp only [cond_false]
 have h1 : 0 <= v0 ∧ v0 <= 1048576:=by omega
 obtain ⟨v1,e1,p1⟩:=Rb (k.2.1) h1
 rw [e1]
 rcases p1 with p1 | ⟨p1,q1,s1⟩
 ·simp only [Ad]; rw [decide_eq_true p1]; exact ⟨-1,rfl,.inl (by omega)⟩
 simp only [Ad]
 rw [decide_eq_false (by omega : ¬ v1 < 0)]
 simp only [cond_false]
 have h2 : 0 <= v1 ∧ v1 <= 1048576:=by omega
 obtain ⟨v2,e2,p2⟩:=Ol (k.2.2.1) h2
 rw [e2]
 rcases p2 with p2 | ⟨p2,q2,s2⟩
 ·simp only [Ad]; rw [decide_eq_true p2]; exact ⟨-1,rfl,.inl (by omega)⟩
 simp only [Ad]
 rw [decide_eq_false (by omega : ¬ v2 < 0)]
 simp only [cond_false]
 exact ⟨v2,rfl,.inr ⟨by unfold Ld; omega,q2,s0,s1,s2⟩⟩
end Go.Proofs.YtkclaipnejgloaaGreatDoor
