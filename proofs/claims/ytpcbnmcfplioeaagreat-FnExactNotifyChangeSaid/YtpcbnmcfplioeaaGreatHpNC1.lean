/-
 The laws' copies, comparisons and size checks on typed data, printed by genlaw.py. No conditions.
-/
import Derived.Test.YtpcbnmcfplioeaaGreatHlNC1
import Derived.Test.YtpcbnmcfplioeaaGreatTyNC1
namespace Go.Proofs.YtpcbnmcfplioeaaGreat
open Go.RowKit
set_option linter.unusedVariables false
set_option linter.unusedSimpArgs false
def L5 (a : List Int) : Prop:=List.length a <= 1048576
def Kw (a : List Int) : Nat:=List.length a
theorem SG {a : List Int} (h : L5 a) : FB a = some a:=by
 unfold FB
 rw [Ap (MV (CH (show _ from h))),OA (a:=a) (g:=some) (h:=id) (fun _ _ _ => rfl) (fun _ _ => rfl) (CH (show _ from h))]
 simp only [Ad,List.map_id]
theorem RF {a : List Int} (h : L5 a) : FA a a = some true:=by
 unfold FA
 rw [N5 (B:=Kr a a) (a:=a) (g:=(fun x y => some (x == y))) (fun _ _ => rfl) (fun _ _ => by simp) (CH (show _ from h))]
 simp [Ad]
theorem SE {a : List Int} (k : ft a) {left : Int} (h : 0 <= left ∧ left <= 1048576) : SzR left (GD a left) (L5 a) (Kw a):=kL h k.1
def Lk (a : List (List Int)) : Prop:=List.length a <= 1048576 ∧ ∀ e ∈ a,L5 e
def Pt (a : List (List Int)) : Nat:=List.length a + tzL Kw a
theorem VX {a : List (List Int)} (h : Lk a) : HC a = some a:=by
 unfold HC
 rw [Ap (MV (CH h.1)),OA (a:=a) (g:=FB) (h:=id) (fun _ _ _ => rfl) (fun e he => SG (h.2 e he)) (CH h.1)]
 simp only [Ad,List.map_id]
theorem U8 {a : List (List Int)} (h : Lk a) : Hx a a = some true:=by
 unfold Hx
 rw [N5 (B:=JD a a) (a:=a) (g:=FA) (fun _ _ => rfl) (fun e he => RF (h.2 e he)) (CH h.1)]
 simp [Ad]
theorem VV {a : List (List Int)} (k : ln a) {left : Int} (h : 0 <= left ∧ left <= 1048576) : SzR left (IJ a left) (Lk a) (Pt a):=Qu (B:=JM a) (g:=GD) (fun _ _ _ => rfl) (fun e he left h => SE (k.2 e he) h) h k.1
def Ij (a : Y32) : Prop:=Lk a.2
def FL (a : Y32) : Nat:=Pt a.2
theorem Na {a : Y32} (h : Ij a) : D7 a = some a:=by
 unfold D7
 simp only [VX (h),Ad] <;> rfl
theorem ML {a : Y32} (h : Ij a) : D4 a a = some true:=by
 simp [D4,U8 (h),Ad]
theorem M7 {a : Y32} (k : kh a) {left : Int} (h : 0 <= left ∧ left <= 1048576) : SzR left (D6 a left) (Ij a) (FL a):=by
 unfold D6
 have h0 : 0 <= left ∧ left <= 1048576:=h
 obtain ⟨v0,e0,p0⟩:=VV (k.2) h0
 rw [e0]
 rcases p0 with p0 | ⟨p0,q0,s0⟩
 ·simp only [Ad]; rw [decide_eq_true p0]; exact ⟨-1,rfl,.inl (by omega)⟩
 simp only [Ad]
 rw [decide_eq_false (by omega : ¬ v0 < 0)]
 simp only [cond_false]
 exact ⟨v0,rfl,.inr ⟨by unfold FL; omega,q0,s0⟩⟩
def Po (a : Kx) : Prop:=List.length a.1 <= 1048576 ∧ Ij a.2
def Lo (a : Kx) : Nat:=List.length a.1 + FL a.2
theorem aW {a : Kx} (h : Po a) : HD a = some a:=by
 unfold HD
 simp only [Na (h.2),Ad] <;> rfl
theorem ZK {a : Kx} (h : Po a) : Hy a a = some true:=by
 simp [Hy,ML (h.2),Ad]
theorem aO {a : Kx} (k : dS a) {left : Int} (h : 0 <= left ∧ left <= 1048576) : SzR left (HA a left) (Po a) (Lo a):=by
 unfold HA
 have h0 : 0 <= left ∧ left <= 1048576:=h
 obtain ⟨v0,e0,p0⟩:=kM h0 k.1
 rw [e0]
 rcases p0 with p0 | ⟨p0,q0,s0⟩
 ·simp only [Ad]; rw [decide_eq_true p0]; exact ⟨-1,rfl,.inl (by omega)⟩
 simp only [Ad]
 rw [decide_eq_false (by omega : ¬ v0 < 0)]
 simp only [cond_false]
 have h1 : 0 <= v0 ∧ v0 <= 1048576:=by omega
 obtain ⟨v1,e1,p1⟩:=M7 (k.2) h1
 rw [e1]
 rcases p1 with p1 | ⟨p1,q1,s1⟩
 ·simp only [Ad]; rw [decide_eq_true p1]; exact ⟨-1,rfl,.inl (by omega)⟩
 simp only [Ad]
 rw [decide_eq_false (by omega : ¬ v1 < 0)]
 simp only [cond_false]
 exact ⟨v1,rfl,.inr ⟨by unfold Lo; omega,q1,s0,s1⟩⟩
def L6 (a : List Kx) : Prop:=List.length a <= 1048576 ∧ ∀ e ∈ a,Po e
def Qw (a : List Kx) : Nat:=List.length a + tzL Lo a
theorem YU {a : List Kx} (h : L6 a) : HO a = some a:=by
 unfold HO
 rw [Ap (MV (CH h.1)),OA (a:=a) (g:=HD) (h:=id) (fun _ _ _ => rfl) (fun e he => aW (h.2 e he)) (CH h.1)]
 simp only [Ad,List.map_id]
theorem Xk {a : List Kx} (h : L6 a) : HN a a = some true:=by
 unfold HN
 rw [N5 (B:=IY a a) (a:=a) (g:=Hy) (fun _ _ => rfl) (fun e he => ZK (h.2 e he)) (CH h.1)]
 simp [Ad]
theorem YS {a : List Kx} (k : og a) {left : Int} (h : 0 <= left ∧ left <= 1048576) : SzR left (Jd a left) (L6 a) (Qw a):=Qu (B:=I0 a) (g:=HA) (fun _ _ _ => rfl) (fun e he left h => aO (k.2 e he) h) h k.1
def Ho (a : List Kx) : Prop:=L6 a
def GM (a : List Kx) : Nat:=Qw a
theorem UP {a : List Kx} (h : Ho a) : GF a = some a:=by
 unfold GF
 simp only [YU (h),Ad] <;> rfl
theorem Uc {a : List Kx} (h : Ho a) : Gz a a = some true:=by
 simp [Gz,Xk (h),Ad]
theorem UN {a : List Kx} (k : oh a) {left : Int} (h : 0 <= left ∧ left <= 1048576) : SzR left (GC a left) (Ho a) (GM a):=by
 unfold GC
 have h0 : 0 <= left ∧ left <= 1048576:=h
 obtain ⟨v0,e0,p0⟩:=YS (k) h0
 rw [e0]
 rcases p0 with p0 | ⟨p0,q0,s0⟩
 ·simp only [Ad]; rw [decide_eq_true p0]; exact ⟨-1,rfl,.inl (by omega)⟩
 simp only [Ad]
 rw [decide_eq_false (by omega : ¬ v0 < 0)]
 simp only [cond_false]
 exact ⟨v0,rfl,.inr ⟨by unfold GM; omega,q0,s0⟩⟩
def Sr (a : CA) : Prop:=List.length a.1 <= 1048576 ∧ L5 a.2
def Qv (a : CA) : Nat:=List.length a.1 + Kw a.2
theorem fb {a : CA} (h : Sr a) : If a = some a:=by
 unfold If
 simp only [SG (h.2),Ad] <;> rfl
theorem cQ {a : CA} (h : Sr a) : H8 a a = some true:=by
 simp [H8,RF (h.2),Ad]
theorem eV {a : CA} (k : dT a) {left : Int} (h : 0 <= left ∧ left <= 1048576) : SzR left (Ib a left) (Sr a) (Qv a):=by
 unfold Ib
 have h0 : 0 <= left ∧ left <= 1048576:=h
 obtain ⟨v0,e0,p0⟩:=kM h0 k.1
 rw [e0]
 rcases p0 with p0 | ⟨p0,q0,s0⟩
 ·simp only [Ad]; rw [decide_eq_true p0]; exact ⟨-1,rfl,.inl (by omega)⟩
 simp only [Ad]
 rw [decide_eq_false (by omega : ¬ v0 < 0)]
 simp only [cond_false]
 have h1 : 0 <= v0 ∧ v0 <= 1048576:=by omega
 obtain ⟨v1,e1,p1⟩:=SE (k.2) h1
 rw [e1]
 rcases p1 with p1 | ⟨p1,q1,s1⟩
 ·simp only [Ad]; rw [decide_eq_true p1]; exact ⟨-1,rfl,.inl (by omega)⟩
 simp only [Ad]
 rw [decide_eq_false (by omega : ¬ v1 < 0)]
 simp only [cond_false]
 exact ⟨v1,rfl,.inr ⟨by unfold Qv; omega,q1,s0,s1⟩⟩
def NJ (a : List CA) : Prop:=List.length a <= 1048576 ∧ ∀ e ∈ a,Sr e
def SJ (a : List CA) : Nat:=List.length a + tzL Qv a
theorem aT {a : List CA} (h : NJ a) : IL a = some a:=by
 unfold IL
 rw [Ap (MV (CH h.1)),OA (a:=a) (g:=If) (h:=id) (fun _ _ _ => rfl) (fun e he => fb (h.2 e he)) (CH h.1)]
 simp only [Ad,List.map_id]
theorem ZH {a : List CA} (h : NJ a) : IE a a = some true:=by
 unfold IE
 rw [N5 (B:=JC a a) (a:=a) (g:=H8) (fun _ _ => rfl) (fun e he => cQ (h.2 e he)) (CH h.1)]
 simp [Ad]
theorem aK {a : List CA} (k : dP a) {left : Int} (h : 0 <= left ∧ left <= 1048576) : SzR left (Ke a left) (NJ a) (SJ a):=Qu (B:=JL a) (g:=Ib) (fun _ _ _ => rfl) (fun e he left h => eV (k.2 e he) h) h k.1
def NL (a : WE) : Prop:=NJ a.2.1 ∧ L5 a.2.2
def Ln (a : WE) : Nat:=SJ a.2.1 + Kw a.2.2
theorem aV {a : WE} (h : NL a) : IM a = some a:=by
 unfold IM
 simp only [aT (h.1),SG (h.2),Ad] <;> rfl
theorem ZJ {a : WE} (h : NL a) : IG a a = some true:=by
 simp [IG,ZH (h.1),RF (h.2),Ad]
theorem aN {a : WE} (k : dQ a) {left : Int} (h : 0 <= left ∧ left <= 1048576) : SzR left (IK a left) (NL a) (Ln a):=by
 unfold IK
 have h0 : 0 <= left ∧ left <= 1048576:=h
 obtain ⟨v0,e0,p0⟩:=aK (k.2.1) h0
 rw [e0]
 rcases p0 with p0 | ⟨p0,q0,s0⟩
 ·simp only [Ad]; rw [decide_eq_true p0]; exact ⟨-1,rfl,.inl (by omega)⟩
 simp only [Ad]
 rw [decide_eq_false (by omega : ¬ v0 < 0)]
 simp only [cond_false]
 have h1 : 0 <= v0 ∧ v0 <= 1048576:=by omega
 obtain ⟨v1,e1,p1⟩:=SE (k.2.2) h1
 rw [e1]
 rcases p1 with p1 | ⟨p1,q1,s1⟩
 ·simp only [Ad]; rw [decide_eq_true p1]; exact ⟨-1,rfl,.inl (by omega)⟩
 simp only [Ad]
 rw [decide_eq_false (by omega : ¬ v1 < 0)]
 simp only [cond_false]
 exact ⟨v1,rfl,.inr ⟨by unfold Ln; omega,q1,s0,s1⟩⟩
def Ci (a : Y43) : Prop:=Lk a.2.1 ∧ L5 a.2.2
def AV (a : Y43) : Nat:=Pt a.2.1 + Kw a.2.2
theorem Kl {a : Y43} (h : Ci a) : Bv a = some a:=by
 unfold Bv
 simp only [VX (h.1),SG (h.2),Ad] <;> rfl
theorem J7 {a : Y43} (h : Ci a) : Bt a a = some true:=by
 simp [Bt,U8 (h.1),RF (h.2),Ad]
theorem Kk {a : Y43} (k : ai a) {left : Int} (h : 0 <= left ∧ left <= 1048576) : SzR left (Bu a left) (Ci a) (AV a):=by
 unfold Bu
 have h0 : 0 <= left ∧ left <= 1048576:=h
 obtain ⟨v0,e0,p0⟩:=VV (k.2.1) h0
 rw [e0]
 rcases p0 with p0 | ⟨p0,q0,s0⟩
 ·simp only [Ad]; rw [decide_eq_true p0]; exact ⟨-1,rfl,.inl (by omega)⟩
 simp only [Ad]
 rw [decide_eq_false (by omega : ¬ v0 < 0)]
 simp only [cond_false]
 have h1 : 0 <= v0 ∧ v0 <= 1048576:=by omega
 obtain ⟨v1,e1,p1⟩:=SE (k.2.2) h1
 rw [e1]
 rcases p1 with p1 | ⟨p1,q1,s1⟩
 ·simp only [Ad]; rw [decide_eq_true p1]; exact ⟨-1,rfl,.inl (by omega)⟩
 simp only [Ad]
 rw [decide_eq_false (by omega : ¬ v1 < 0)]
 simp only [cond_false]
 exact ⟨v1,rfl,.inr ⟨by unfold AV; omega,q1,s0,s1⟩⟩
def Ss (a : MF) : Prop:=NL a.1 ∧ Ci a.2
def Lp (a : MF) : Nat:=Ln a.1 + AV a.2
theorem fc {a : MF} (h : Ss a) : Ih a = some a:=by
 unfold Ih
 simp only [aV (h.1),Kl (h.2),Ad] <;> rfl
theorem cR {a : MF} (h : Ss a) : Ia a a = some true:=by
 simp [Ia,ZJ (h.1),J7 (h.2),Ad]
theorem eW {a : MF} (k : dR a) {left : Int} (h : 0 <= left ∧ left <= 1048576) : SzR left (Ie a left) (Ss a) (Lp a):=by
 unfold Ie
 have h0 : 0 <= left ∧ left <= 1048576:=h
 obtain ⟨v0,e0,p0⟩:=aN (k.1) h0
 rw [e0]
 rcases p0 with p0 | ⟨p0,q0,s0⟩
 ·simp only [Ad]; rw [decide_eq_true p0]; exact ⟨-1,rfl,.inl (by omega)⟩
 simp only [Ad]
 rw [decide_eq_false (by omega : ¬ v0 < 0)]
 simp only [cond_false]
 have h1 : 0 <= v0 ∧ v0 <= 1048576:=by omega
 obtain ⟨v1,e1,p1⟩:=Kk (k.2) h1
 rw [e1]
 rcases p1 with p1 | ⟨p1,q1,s1⟩
 ·simp only [Ad]; rw [decide_eq_true p1]; exact ⟨-1,rfl,.inl (by omega)⟩
 simp only [Ad]
 rw [decide_eq_false (by omega : ¬ v1 < 0)]
 simp only [cond_false]
 exact ⟨v1,rfl,.inr ⟨by unfold Lp; omega,q1,s0,s1⟩⟩
def NM (a : List MF) : Prop:=List.length a <= 1048576 ∧ ∀ e ∈ a,Ss e
def SK (a : List MF) : Nat:=List.length a + tzL Lp a
theorem aX {a : List MF} (h : NM a) : IN a = some a:=by
 unfold IN
 rw [Ap (MV (CH h.1)),OA (a:=a) (g:=Ih) (h:=id) (fun _ _ _ => rfl) (fun e he => fc (h.2 e he)) (CH h.1)]
 simp only [Ad,List.map_id]
theorem ZM {a : List MF} (h : NM a) : IH a a = some true:=by
 unfold IH
 rw [N5 (B:=JE a a) (a:=a) (g:=Ia) (fun _ _ => rfl) (fun e he => cR (h.2 e he)) (CH h.1)]
 simp [Ad]
theorem aP {a : List MF} (k : oi a) {left : Int} (h : 0 <= left ∧ left <= 1048576) : SzR left (Kf a left) (NM a) (SK a):=Qu (B:=JN a) (g:=Ie) (fun _ _ _ => rfl) (fun e he left h => eW (k.2 e he) h) h k.1
def CX (a : List Y43) : Prop:=List.length a <= 1048576 ∧ ∀ e ∈ a,Ci e
def FK (a : List Y43) : Nat:=List.length a + tzL AV a
theorem M9 {a : List Y43} (h : CX a) : Cg a = some a:=by
 unfold Cg
 rw [Ap (MV (CH h.1)),OA (a:=a) (g:=Bv) (h:=id) (fun _ _ _ => rfl) (fun e he => Kl (h.2 e he)) (CH h.1)]
 simp only [Ad,List.map_id]
theorem Jw {a : List Y43} (h : CX a) : A6 a a = some true:=by
 unfold A6
 rw [N5 (B:=Er a a) (a:=a) (g:=Bt) (fun _ _ => rfl) (fun e he => J7 (h.2 e he)) (CH h.1)]
 simp [Ad]
theorem M6 {a : List Y43} (k : ol a) {left : Int} (h : 0 <= left ∧ left <= 1048576) : SzR left (DM a left) (CX a) (FK a):=Qu (B:=Es a) (g:=Bu) (fun _ _ _ => rfl) (fun e he left h => Kk (k.2 e he) h) h k.1
def Hp (a : Y62) : Prop:=Ho a.1 ∧ NM a.2.1 ∧ CX a.2.2
def Hr (a : Y62) : Nat:=GM a.1 + SK a.2.1 + FK a.2.2
theorem UQ {a : Y62} (h : Hp a) : Di a = some a:=by
 unfold Di
 simp only [UP (h.1),aX (h.2.1),M9 (h.2.2),Ad] <;> rfl
theorem PV {a : Y62} (h : Hp a) : Dh a a = some true:=by
 simp [Dh,Uc (h.1),ZM (h.2.1),Jw (h.2.2),Ad]
theorem UO {a : Y62} (k : lp a) {left : Int} (h : 0 <= left ∧ left <= 1048576) : SzR left (GE a left) (Hp a) (Hr a):=by
 unfold GE
 have h0 : 0 <= left ∧ left <= 1048576:=h
 obtain ⟨v0,e0,p0⟩:=UN (k.1) h0
 rw [e0]
 rcases p0 with p0 | ⟨p0,q0,s0⟩
 ·simp only [Ad]; rw [decide_eq_true p0]; exact ⟨-1,rfl,.inl (by omega)⟩
 simp only [Ad]
 rw [decide_eq_false (by omega : ¬ v0 < 0)]
 simp only [cond_false]
 have h1 : 0 <= v0 ∧ v0 <= 1048576:=by omega
 obtain ⟨v1,e1,p1⟩:=aP (k.2.1) h1
 rw [e1]
 rcases p1 with p1 | ⟨p1,q1,s1⟩
 ·simp only [Ad]; rw [decide_eq_true p1]; exact ⟨-1,rfl,.inl (by omega)⟩
 simp only [Ad]
 rw [decide_eq_false (by omega : ¬ v1 < 0)]
 simp only [cond_false]
 have h2 : 0 <= v1 ∧ v1 <= 1048576:=by omega
 obtain ⟨v2,e2,p2⟩:=M6 (k.2.2) h2
 rw [e2]
 rcases p2 with p2 | ⟨p2,q2,s2⟩
 ·simp only [Ad]; rw [decide_eq_true p2]; exact ⟨-1,rfl,.inl (by omega)⟩
 simp only [Ad]
 rw [decide_eq_false (by omega : ¬ v2 < 0)]
 simp only [cond_false]
 exact ⟨v2,rfl,.inr ⟨by unfold Hr; omega,q2,s0,s1,s2⟩⟩
def NK (a : Y65) : Prop:=List.length a.1 <= 1048576 ∧ Ij a.2.1 ∧ Ij a.2.2
def Ps (a : Y65) : Nat:=List.length a.1 + FL a.2.1 + FL a.2.2
theorem aU {a : Y65} (h : NK a) : Fv a = some a:=by
 unfold Fv
 simp only [Na (h.2.1),Na (h.2.2),Ad] <;> rfl
theorem ZI {a : Y65} (h : NK a) : IF a a = some true:=by
 simp [IF,ML (h.2.1),ML (h.2.2),Ad]
theorem aM {a : Y65} (k : lq a) {left : Int} (h : 0 <= left ∧ left <= 1048576) : SzR left (II a left) (NK a) (Ps a):=by
 unfold II
 have h0 : 0 <= left ∧ left <= 1048576:=h
 obtain ⟨v0,e0,p0⟩:=kM h0 k.1
 rw [e0]
 rcases p0 with p0 | ⟨p0,q0,s0⟩
 ·simp only [Ad]; rw [decide_eq_true p0]; exact ⟨-1,rfl,.inl (by omega)⟩
 simp only [Ad]
 rw [decide_eq_false (by omega : ¬ v0 < 0)]
 simp only [cond_false]
 have h1 : 0 <= v0 ∧ v0 <= 1048576:=by omega
 obtain ⟨v1,e1,p1⟩:=M7 (k.2.1) h1
 rw [e1]
 rcases p1 with p1 | ⟨p1,q1,s1⟩
 ·simp only [Ad]; rw [decide_eq_true p1]; exact ⟨-1,rfl,.inl (by omega)⟩
 simp only [Ad]
 rw [decide_eq_false (by omega : ¬ v1 < 0)]
 simp only [cond_false]
 have h2 : 0 <= v1 ∧ v1 <= 1048576:=by omega
 obtain ⟨v2,e2,p2⟩:=M7 (k.2.2) h2
 rw [e2]
 rcases p2 with p2 | ⟨p2,q2,s2⟩
 ·simp only [Ad]; rw [decide_eq_true p2]; exact ⟨-1,rfl,.inl (by omega)⟩
 simp only [Ad]
 rw [decide_eq_false (by omega : ¬ v2 < 0)]
 simp only [cond_false]
 exact ⟨v2,rfl,.inr ⟨by unfold Ps; omega,q2,s0,s1,s2⟩⟩
theorem RA (a : List Int) : Jk a <= 64 * Kw a:=U6 (c:=1) (fun _ => Nat.le_refl 1) (by decide) a
theorem RB (a : List (List Int)) : LH a <= 64 * Pt a:=N0 (c:=0) (fun x => RA x) (by decide) a
theorem Ub (a : Y32) : cH a <= 64 * FL a + 1:=by
 have b1:=RB a.2
 unfold cH FL
 omega
theorem OF (a : Y32) : cJ a <= 64 * FL a + 0:=by
 have b1:=RB a.2
 unfold cJ FL
 omega
theorem Zz (a : AU) : PJ a <= 64 * Lo a + 2:=by
 have b1:=Ub a.2
 unfold PJ Lo
 omega
theorem Xf (a : List AU) : Y9 a <= 64 * Qw a:=N0 (c:=2) (fun x => Zz x) (by decide) a
theorem S5 (a : List AU) : SO a <= 64 * GM a + 0:=by
 have b0:=Xf a
 unfold SO GM
 omega
theorem cK (a : CA) : PK a <= 64 * Qv a + 1:=by
 have b1:=RA a.2
 unfold PK Qv
 omega
theorem Zx (a : List CA) : Nc a <= 64 * SJ a:=N0 (c:=1) (fun x => cK x) (by decide) a
theorem Zy (a : Y51) : W6 a <= 64 * Ln a + 1:=by
 have b1:=Zx a.2.1
 have b2:=RA a.2.2
 unfold W6 Ln
 omega
theorem J6 (a : Y43) : QD a <= 64 * AV a + 1:=by
 have b1:=RB a.2.1
 have b2:=RA a.2.2
 unfold QD AV
 omega
theorem cL (a : Y53) : W7 a <= 64 * Lp a + 2:=by
 have b0:=Zy a.1
 have b1:=J6 a.2
 unfold W7 Lp
 omega
theorem ZA (a : List Y53) : V9 a <= 64 * SK a:=N0 (c:=2) (fun x => cL x) (by decide) a
theorem Ju (a : List Y43) : T5 a <= 64 * FK a:=N0 (c:=1) (fun x => J6 x) (by decide) a
theorem OE (a : Y29) : Rz a <= 64 * Hr a + 0:=by
 have b0:=S5 a.1
 have b1:=ZA a.2.1
 have b2:=Ju a.2.2
 unfold Rz Hr
 omega
theorem Xg (a : Y34) : Za a <= 64 * Ps a + 0:=by
 have b1:=OF a.2.1
 have b2:=OF a.2.2
 unfold Za Ps
 omega
theorem P3 {x : List Int} {k : Int} (h : L5 x) (h0 : 0 <= k) (h1 : k + (Jk x : Int) <= mB) : DL (Om x k) k = some (k + (Jk x : Int)):=by
 have hm : mB <= 9223372036854775000:=by unfold mB; omega
 unfold DL Om Jk
 rw [KG (cnt:=dX) (mk:=XX) (B:=FU (mkL dX XX x k)) (CH (show _ from h)) h0 h1 (fun rec x y i hx hy hy2 hi hg => ?_) (fun rec y => ?_)]
 ·rfl
 ·have c1 : dX x = 1:=rfl
  have e0 : y = y:=by omega
  have em : XX x y = y:=e0
  rw [em] at hg
  have w0 : IntKind.i64.wrap (y + 1) = y + 1:=wrap_in (by omega)
  have i0 : IntKind.i64.wrap (y) = y:=wrap_in (by omega)
  have eT : y + 1 = y + (dX x : Int):=by omega
  simp only [FU,decide_eq_true hi,hg,cond_true,Ad,beq_self_eq_true,Bool.not_true,cond_false,bne_self_eq_false,w0,i0]
  all_goals rw [eT]
 ·simp [FU]
theorem RO {x : List (List Int)} {k : Int} (h : Lk x) (h0 : 0 <= k) (h1 : k + (LH x : Int) <= mB) : EX (R9 x k) k = some (k + (LH x : Int)):=by
 have hm : mB <= 9223372036854775000:=by unfold mB; omega
 unfold EX R9 LH
 rw [KG (cnt:=Jk) (mk:=Om) (B:=Fi (mkL Jk Om x k)) (CH h.1) h0 h1 (fun rec x y i hx hy hy2 hi hg => ?_) (fun rec y => ?_)]
 ·rfl
 ·have hs:=h.2 _ hx
  have e0 : y = y:=by omega
  have em : Om x y = Om x (y):=(congrArg (Om x) e0)
  rw [em] at hg
  have r0:=P3 (x:=x) (k:=y) hs (by omega) (by omega)
  have u0 : decide (y + (Jk x : Int) < 0) = false:=decide_eq_false (by omega)
  have eT : y + (Jk x : Int) = y + (Jk x : Int):=by omega
  simp only [Fi,decide_eq_true hi,hg,cond_true,Ad,beq_self_eq_true,Bool.not_true,cond_false,bne_self_eq_false,r0,u0]
  all_goals rw [eT]
 ·simp [Fi]
theorem XB {x : List AU} {k : Int} (h : L6 x) (h0 : 0 <= k) (h1 : k + (Y9 x : Int) <= mB) : GB (jT x k) k = some (k + (Y9 x : Int)):=by
 have hm : mB <= 9223372036854775000:=by unfold mB; omega
 unfold GB jT Y9
 rw [KG (cnt:=PJ) (mk:=Wy) (B:=EH (mkL PJ Wy x k)) (CH h.1) h0 h1 (fun rec x y i hx hy hy2 hi hg => ?_) (fun rec y => ?_)]
 ·rfl
 ·have hs:=h.2 _ hx
  have c33_1 : cH x.2 = 1 + LH x.2.2:=rfl
  have c123_2 : PJ x = 1 + cH x.2:=rfl
  have e0 : y = y:=by omega
  have e1 : y + ((1 : Nat) : Int) = y + 1:=by omega
  have e2 : y + ((1 : Nat) : Int) + ((1 : Nat) : Int) = y + 1 + 1:=by omega
  have em : Wy x y = (mtx (y),(y + 1,R9 x.2.2 (y + 1 + 1))):=(mk2 (congrArg mtx e0) (mk2 e1 (congrArg (R9 x.2.2) e2)))
  rw [em] at hg
  have t0:=(ae (k:=y) (by omega) (by omega)).1
  have w0 : IntKind.i64.wrap (y + 1) = y + 1:=wrap_in (by omega)
  have w1 : IntKind.i64.wrap (y + 1 + 1) = y + 1 + 1:=wrap_in (by omega)
  have i1 : IntKind.i64.wrap (y + 1) = y + 1:=wrap_in (by omega)
  have r2:=RO (x:=x.2.2) (k:=y + 1 + 1) hs.2 (by omega) (by omega)
  have u2 : decide (y + 1 + 1 + (LH x.2.2 : Int) < 0) = false:=decide_eq_false (by omega)
  have eT : y + 1 + 1 + (LH x.2.2 : Int) = y + (PJ x : Int):=by omega
  simp only [EH,decide_eq_true hi,hg,cond_true,Ad,beq_self_eq_true,Bool.not_true,cond_false,bne_self_eq_false,t0,w0,w1,i1,r2,u2]
  all_goals rw [eT]
 ·simp [EH]
theorem Um {x : List AU} {k : Int} (h : Ho x) (h0 : 0 <= k) (h1 : k + (SO x : Int) <= mB) : Fh (jZ x k) k = some (k + (SO x : Int)):=by
 have hc : SO x = Y9 x:=rfl
 have r0:=XB (x:=x) (k:=k) h (by omega) (by omega)
 have u0 : decide (k + ((Y9 x : Nat) : Int) < 0) = false:=decide_eq_false (by omega)
 have eT : k + ((Y9 x : Nat) : Int) = k + (SO x : Int):=by omega
 simp only [Fh,jZ,Ad,cond_false,r0,u0]
 all_goals rw [eT]
theorem ZS {x : List CA} {k : Int} (h : NJ x) (h0 : 0 <= k) (h1 : k + (Nc x : Int) <= mB) : G7 (dC x k) k = some (k + (Nc x : Int)):=by
 have hm : mB <= 9223372036854775000:=by unfold mB; omega
 unfold G7 dC Nc
 rw [KG (cnt:=PK) (mk:=Wz) (B:=Ff (mkL PK Wz x k)) (CH h.1) h0 h1 (fun rec x y i hx hy hy2 hi hg => ?_) (fun rec y => ?_)]
 ·rfl
 ·have hs:=h.2 _ hx
  have c146_1 : PK x = 1 + Jk x.2:=rfl
  have e0 : y = y:=by omega
  have e1 : y + ((1 : Nat) : Int) = y + 1:=by omega
  have em : Wz x y = (mtx (y),Om x.2 (y + 1)):=(mk2 (congrArg mtx e0) (congrArg (Om x.2) e1))
  rw [em] at hg
  have t0:=(ae (k:=y) (by omega) (by omega)).1
  have w0 : IntKind.i64.wrap (y + 1) = y + 1:=wrap_in (by omega)
  have r1:=P3 (x:=x.2) (k:=y + 1) hs.2 (by omega) (by omega)
  have u1 : decide (y + 1 + (Jk x.2 : Int) < 0) = false:=decide_eq_false (by omega)
  have eT : y + 1 + (Jk x.2 : Int) = y + (PK x : Int):=by omega
  simp only [Ff,decide_eq_true hi,hg,cond_true,Ad,beq_self_eq_true,Bool.not_true,cond_false,bne_self_eq_false,t0,w0,r1,u1]
  all_goals rw [eT]
 ·simp [Ff]
theorem ZT {x : List Y53} {k : Int} (h : NM x) (h0 : 0 <= k) (h1 : k + (V9 x : Int) <= mB) : G8 (jU x k) k = some (k + (V9 x : Int)):=by
 have hm : mB <= 9223372036854775000:=by unfold mB; omega
 unfold G8 jU V9
 rw [KG (cnt:=W7) (mk:=fo) (B:=Fj (mkL W7 fo x k)) (CH h.1) h0 h1 (fun rec x y i hx hy hy2 hi hg => ?_) (fun rec y => ?_)]
 ·rfl
 ·have hs:=h.2 _ hx
  have c52_1 : W6 x.1 = 1 + Nc x.1.2.1 + Jk x.1.2.2:=rfl
  have c44_2 : QD x.2 = 1 + LH x.2.2.1 + Jk x.2.2.2:=rfl
  have c54_3 : W7 x = W6 x.1 + QD x.2:=rfl
  have e0 : y = y:=by omega
  have e1 : y + ((1 : Nat) : Int) = y + 1:=by omega
  have e2 : y + ((1 : Nat) : Int) + ((Nc x.1.2.1 : Nat) : Int) = y + 1 + (Nc x.1.2.1 : Int):=by omega
  have e3 : y + ((W6 x.1 : Nat) : Int) = y + 1 + (Nc x.1.2.1 : Int) + (Jk x.1.2.2 : Int):=by omega
  have e4 : y + ((W6 x.1 : Nat) : Int) + ((1 : Nat) : Int) = y + 1 + (Nc x.1.2.1 : Int) + (Jk x.1.2.2 : Int) + 1:=by omega
  have e5 : y + ((W6 x.1 : Nat) : Int) + ((1 : Nat) : Int) + ((LH x.2.2.1 : Nat) : Int) = y + 1 + (Nc x.1.2.1 : Int) + (Jk x.1.2.2 : Int) + 1 + (LH x.2.2.1 : Int):=by omega
  have em : fo x y = ((y,(dC x.1.2.1 (y + 1),Om x.1.2.2 (y + 1 + (Nc x.1.2.1 : Int)))),(y + 1 + (Nc x.1.2.1 : Int) + (Jk x.1.2.2 : Int),(R9 x.2.2.1 (y + 1 + (Nc x.1.2.1 : Int) + (Jk x.1.2.2 : Int) + 1),Om x.2.2.2 (y + 1 + (Nc x.1.2.1 : Int) + (Jk x.1.2.2 : Int) + 1 + (LH x.2.2.1 : Int))))):=(mk2 (mk2 e0 (mk2 (congrArg (dC x.1.2.1) e1) (congrArg (Om x.1.2.2) e2))) (mk2 e3 (mk2 (congrArg (R9 x.2.2.1) e4) (congrArg (Om x.2.2.2) e5))))
  rw [em] at hg
  have w0 : IntKind.i64.wrap (y + 1) = y + 1:=wrap_in (by omega)
  have i0 : IntKind.i64.wrap (y) = y:=wrap_in (by omega)
  have r1:=ZS (x:=x.1.2.1) (k:=y + 1) hs.1.1 (by omega) (by omega)
  have u1 : decide (y + 1 + (Nc x.1.2.1 : Int) < 0) = false:=decide_eq_false (by omega)
  have r2:=P3 (x:=x.1.2.2) (k:=y + 1 + (Nc x.1.2.1 : Int)) hs.1.2 (by omega) (by omega)
  have u2 : decide (y + 1 + (Nc x.1.2.1 : Int) + (Jk x.1.2.2 : Int) < 0) = false:=decide_eq_false (by omega)
  have w3 : IntKind.i64.wrap (y + 1 + (Nc x.1.2.1 : Int) + (Jk x.1.2.2 : Int) + 1) = y + 1 + (Nc x.1.2.1 : Int) + (Jk x.1.2.2 : Int) + 1:=wrap_in (by omega)
  have i3 : IntKind.i64.wrap (y + 1 + (Nc x.1.2.1 : Int) + (Jk x.1.2.2 : Int)) = y + 1 + (Nc x.1.2.1 : Int) + (Jk x.1.2.2 : Int):=wrap_in (by omega)
  have r4:=RO (x:=x.2.2.1) (k:=y + 1 + (Nc x.1.2.1 : Int) + (Jk x.1.2.2 : Int) + 1) hs.2.1 (by omega) (by omega)
  have u4 : decide (y + 1 + (Nc x.1.2.1 : Int) + (Jk x.1.2.2 : Int) + 1 + (LH x.2.2.1 : Int) < 0) = false:=decide_eq_false (by omega)
  have r5:=P3 (x:=x.2.2.2) (k:=y + 1 + (Nc x.1.2.1 : Int) + (Jk x.1.2.2 : Int) + 1 + (LH x.2.2.1 : Int)) hs.2.2 (by omega) (by omega)
  have u5 : decide (y + 1 + (Nc x.1.2.1 : Int) + (Jk x.1.2.2 : Int) + 1 + (LH x.2.2.1 : Int) + (Jk x.2.2.2 : Int) < 0) = false:=decide_eq_false (by omega)
  have eT : y + 1 + (Nc x.1.2.1 : Int) + (Jk x.1.2.2 : Int) + 1 + (LH x.2.2.1 : Int) + (Jk x.2.2.2 : Int) = y + (W7 x : Int):=by omega
  simp only [Fj,decide_eq_true hi,hg,cond_true,Ad,beq_self_eq_true,Bool.not_true,cond_false,bne_self_eq_false,w0,i0,r1,u1,r2,u2,w3,i3,r4,u4,r5,u5]
  all_goals rw [eT]
 ·simp [Fj]
theorem Jx {x : List Y43} {k : Int} (h : CX x) (h0 : 0 <= k) (h1 : k + (T5 x : Int) <= mB) : A7 (dB x k) k = some (k + (T5 x : Int)):=by
 have hm : mB <= 9223372036854775000:=by unfold mB; omega
 unfold A7 dB T5
 rw [KG (cnt:=QD) (mk:=WH) (B:=By (mkL QD WH x k)) (CH h.1) h0 h1 (fun rec x y i hx hy hy2 hi hg => ?_) (fun rec y => ?_)]
 ·rfl
 ·have hs:=h.2 _ hx
  have c44_1 : QD x = 1 + LH x.2.1 + Jk x.2.2:=rfl
  have e0 : y = y:=by omega
  have e1 : y + ((1 : Nat) : Int) = y + 1:=by omega
  have e2 : y + ((1 : Nat) : Int) + ((LH x.2.1 : Nat) : Int) = y + 1 + (LH x.2.1 : Int):=by omega
  have em : WH x y = (y,(R9 x.2.1 (y + 1),Om x.2.2 (y + 1 + (LH x.2.1 : Int)))):=(mk2 e0 (mk2 (congrArg (R9 x.2.1) e1) (congrArg (Om x.2.2) e2)))
  rw [em] at hg
  have w0 : IntKind.i64.wrap (y + 1) = y + 1:=wrap_in (by omega)
  have i0 : IntKind.i64.wrap (y) = y:=wrap_in (by omega)
  have r1:=RO (x:=x.2.1) (k:=y + 1) hs.1 (by omega) (by omega)
  have u1 : decide (y + 1 + (LH x.2.1 : Int) < 0) = false:=decide_eq_false (by omega)
  have r2:=P3 (x:=x.2.2) (k:=y + 1 + (LH x.2.1 : Int)) hs.2 (by omega) (by omega)
  have u2 : decide (y + 1 + (LH x.2.1 : Int) + (Jk x.2.2 : Int) < 0) = false:=decide_eq_false (by omega)
  have eT : y + 1 + (LH x.2.1 : Int) + (Jk x.2.2 : Int) = y + (QD x : Int):=by omega
  simp only [By,decide_eq_true hi,hg,cond_true,Ad,beq_self_eq_true,Bool.not_true,cond_false,bne_self_eq_false,w0,i0,r1,u1,r2,u2]
  all_goals rw [eT]
 ·simp [By]
theorem Un {x : Y29} {k : Int} (h : Hp x) (h0 : 0 <= k) (h1 : k + (Rz x : Int) <= mB) : DU (fp x k) k = some (k + (Rz x : Int)):=by
 have hc : Rz x = SO x.1 + V9 x.2.1 + T5 x.2.2:=rfl
 have r0:=Um (x:=x.1) (k:=k) h.1 (by omega) (by omega)
 have u0 : decide (k + ((SO x.1 : Nat) : Int) < 0) = false:=decide_eq_false (by omega)
 have r1:=ZT (x:=x.2.1) (k:=k + ((SO x.1 : Nat) : Int)) h.2.1 (by omega) (by omega)
 have u1 : decide (k + ((SO x.1 : Nat) : Int) + ((V9 x.2.1 : Nat) : Int) < 0) = false:=decide_eq_false (by omega)
 have r2:=Jx (x:=x.2.2) (k:=k + ((SO x.1 : Nat) : Int) + ((V9 x.2.1 : Nat) : Int)) h.2.2 (by omega) (by omega)
 have u2 : decide (k + ((SO x.1 : Nat) : Int) + ((V9 x.2.1 : Nat) : Int) + ((T5 x.2.2 : Nat) : Int) < 0) = false:=decide_eq_false (by omega)
 have eT : k + ((SO x.1 : Nat) : Int) + ((V9 x.2.1 : Nat) : Int) + ((T5 x.2.2 : Nat) : Int) = k + (Rz x : Int):=by omega
 simp only [DU,fp,Ad,cond_false,r0,u0,r1,u1,r2,u2]
 all_goals rw [eT]
end Go.Proofs.YtpcbnmcfplioeaaGreat
