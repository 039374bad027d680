/-
 What the functions that mark do: contracts and typed functions, printed by genmark.py. No conditions.
-/
import Derived.Test.YtpcbnmcfplioeaaGreatMxNC1
namespace Go.Proofs.YtpcbnmcfplioeaaGreat
open Go.RowKit
set_option linter.unusedVariables false
set_option linter.unusedSimpArgs false
set_option maxRecDepth 100000
def AJ (x : List Int) : List V:=[dL As x]
theorem Br (x : List Int) : (AJ x).length = 1:=rfl
theorem Ar (x : List Int) : erL (AJ x) = AJ x:=(erc (erD An _) rfl)
def Ah (x : List Int) : List V:=[oL 3 As x]
theorem A8 (x : List Int) : (Ah x).length = 1:=rfl
theorem A3 (x : List Int) : erL (Ah x) = AJ x:=(erc (erO An _) rfl)
def fT (x : List (List Int)) : List V:=[dL AJ x]
abbrev Y32:=Int × (List (List Int))
def Gs (x : Y32) : List V:=[nI x.1,dL AJ x.2]
def Ez (x : Y32) : List V:=[nI x.1,oL 42 Ah x.2]
abbrev AU:=(List UInt8) × Y32
def At (x : AU) : List V:=[.str x.1,nI x.2.1,dL AJ x.2.2]
theorem Cz (x : AU) : (At x).length = 3:=rfl
theorem AH (x : AU) : erL (At x) = At x:=(erc rfl (erc rfl (erc (erD Ar _) rfl)))
def Ak (x : AU) : List V:=[.str x.1,nI x.2.1,oL 42 Ah x.2.2]
theorem DP (x : AU) : (Ak x).length = 3:=rfl
theorem E2 (x : AU) : erL (Ak x) = At x:=(erc rfl (erc rfl (erc (erO A3 _) rfl)))
def IW (x : List AU) : List V:=[oL 123 Ak x]
abbrev CA:=(List UInt8) × (List Int)
def Bc (x : CA) : List V:=[.str x.1,dL As x.2]
theorem GN (x : CA) : (Bc x).length = 2:=rfl
theorem BB (x : CA) : erL (Bc x) = Bc x:=(erc rfl (erc (erD An _) rfl))
def Bk (x : CA) : List V:=[.str x.1,oL 3 As x.2]
theorem Mc (x : CA) : (Bk x).length = 2:=rfl
theorem cO (x : CA) : erL (Bk x) = Bc x:=(erc rfl (erc (erO An _) rfl))
abbrev Y51:=Int × (List CA) × (List Int)
def Gt (x : Y51) : List V:=[nI x.1,dL Bc x.2.1,dL As x.2.2]
def PI (x : Y51) : List V:=[nI x.1,oL 146 Bk x.2.1,oL 3 As x.2.2]
abbrev Y43:=Int × (List (List Int)) × (List Int)
def Bf (x : Y43) : List V:=[nI x.1,dL AJ x.2.1,dL As x.2.2]
theorem Jj (x : Y43) : (Bf x).length = 3:=rfl
theorem RE (x : Y43) : erL (Bf x) = Bf x:=(erc rfl (erc (erD Ar _) (erc (erD An _) rfl)))
def Al (x : Y43) : List V:=[nI x.1,oL 42 Ah x.2.1,oL 3 As x.2.2]
theorem ES (x : Y43) : (Al x).length = 3:=rfl
theorem C4 (x : Y43) : erL (Al x) = Bf x:=(erc rfl (erc (erO A3 _) (erc (erO An _) rfl)))
abbrev Y53:=Y51 × Y43
def AW (x : Y53) : List V:=[nI x.1.1,dL Bc x.1.2.1,dL As x.1.2.2,nI x.2.1,dL AJ x.2.2.1,dL As x.2.2.2]
theorem C1 (x : Y53) : (AW x).length = 6:=rfl
theorem MK (x : Y53) : erL (AW x) = AW x:=(erc rfl (erc (erD BB _) (erc (erD An _) (erc rfl (erc (erD Ar _) (erc (erD An _) rfl))))))
def Ag (x : Y53) : List V:=[nI x.1.1,oL 146 Bk x.1.2.1,oL 3 As x.1.2.2,nI x.2.1,oL 42 Ah x.2.2.1,oL 3 As x.2.2.2]
theorem Cn (x : Y53) : (Ag x).length = 6:=rfl
theorem CL (x : Y53) : erL (Ag x) = AW x:=(erc rfl (erc (erO cO _) (erc (erO An _) (erc rfl (erc (erO A3 _) (erc (erO An _) rfl))))))
abbrev Y29:=(List AU) × (List Y53) × (List Y43)
def Bx (x : Y29) : List V:=[dL At x.1,dL AW x.2.1,dL Bf x.2.2]
def Aw (x : Y29) : List V:=[oL 123 Ak x.1,oL 54 Ag x.2.1,oL 44 Al x.2.2]
abbrev Y34:=(List UInt8) × Y32 × Y32
def Gc (x : Y34) : List V:=[.str x.1,nI x.2.1.1,dL AJ x.2.1.2,nI x.2.2.1,dL AJ x.2.2.2]
def C3 (x : Y34) : List V:=[.str x.1,nI x.2.1.1,oL 42 Ah x.2.1.2,nI x.2.2.1,oL 42 Ah x.2.2.2]
def Jk (x : List Int) : Nat:=La dX x
def Om (x : List Int) (k : Int) : List Int:=mkL dX XX x k
theorem gE (x : List Int) (k : Int) : I1 mtx (Ah x) k = Ah (Om x k):=by
 unfold Ah Om
 exact mkc (NB hmI hcI x k) (F8 hcI x) rfl
theorem Wj (x : List Int) : BA (Ah x) = Jk x:=by
 unfold Ah Jk
 exact T6 (F8 hcI x) rfl
theorem ZD (x : List Int) : AX (Ah x) = true:=dpc (dpo (fun _ => rfl) x) rfl
theorem Qo (l : List Int) (k : Int) (h0 : 0 <= k) (h1 : k + BA (l.flatMap As) <= mB) {body : LC} (hb : body = (.seq (.rgn [] [LL 12 (.move (.tmp 0)) 42,
   LL 13 (.move (.tmp 5)) 3,
   LL 14 (.move (.tmp 1)) 3,
   LL 15 (.indexAddr 42 (.tmp 12) (.tmp 13)) 0,
   ⟨none,(.store 3 (.tmp 15) (.tmp 14)),0,none⟩])
  (.rgn [] [LL 16 (.move (.tmp 1)) 3,
   LL 17 (.binOp .add 3 (.tmp 16) (.const (.int .i64 1)) 3) 3,
   LL 1 (.assign (.tmp 17)) 3]))) : Round Tryz.prog 19 [] mtx 3 1 body l.length (l.flatMap As) k:=by
 subst hb
 intro St w0 bs g cap j w T hnd hbs hj hI0 t0 t1 t5
 have hd : AX (l.flatMap As) = true:=Dc (fun _ => rfl) l
 have hI0 : Inv Tryz.prog St mtx 3 l.length (l.flatMap As) k (.slice (some ⟨g,0,none⟩) l.length cap) bs w0 (j * 1 + 0) w:=hI0
 have t1 : T 1 = some (.int .i64 (k + (DX (l.flatMap As) (j * 1 + 0) : Int))):=t1
 have q0 : (l.flatMap As)[j * 1 + 0]? = some (nI (l[j])):=(G2 AM hj (by decide)).trans rfl
 have b0:=I4 q0 h1
 rw [show Rc (nI (l[j])) = 1 from rfl] at b0
 have x0 : k + (DX (l.flatMap As) (j * 1 + 0) : Int) + 1 = k + (DX (l.flatMap As) (j * 1 + 1) : Int):=PN (k:=k) q0 rfl
 have n0 : 0 <= k + (DX (l.flatMap As) (j * 1 + 0) : Int):=I5 h0
 obtain ⟨u0,c0,f0,hI1⟩:=hI0.int' hd hnd q0
 refine Ch (BX (AI t0 (AI t5 (AI t1 (Mo ER rfl rfl rfl hj (Lg ER rfl rfl rfl rfl c0 f0 rfl (BW ?_)))))))
 generalize hw1 : World.setCell _ _ _ = w1 at hI1 ⊢
 refine BX (AI t1 (OJ rfl (by omega) (by unfold mB at b0; omega) (EJ rfl (BW ?_))))
 rw [x0]
 exact ⟨rfl,t0,rfl,t5,hI1⟩
theorem GI (l : List Int) (k : Int) (h0 : 0 <= k) (h1 : k + BA (l.flatMap As) <= mB) : Hs Tryz.prog 72 (.own 3 l.length (l.flatMap As)) k (.own 3 l.length (I1 mtx (l.flatMap As) k)) (k + BA (l.flatMap As)) :=
 Jm ER (r:=18) (ty:=42) (it:=3) (bt:=4) Wv (by decide) rfl (Av AM l) (by decide) (Qo l k h0 h1 rfl)
def LH (x : List (List Int)) : Nat:=La Jk x
def R9 (x : List (List Int)) (k : Int) : List (List Int):=mkL Jk Om x k
theorem O2 (l : List (List Int)) (k : Int) (h0 : 0 <= k) (h1 : k + BA (l.flatMap Ah) <= mB) {body : LC} (hb : body = (.rgn [] [LL 12 (.move (.tmp 0)) 31,
   LL 13 (.move (.tmp 5)) 3,
   LL 14 (.indexAddr 31 (.tmp 12) (.tmp 13)) 0,
   LL 15 (.load 42 (.tmp 14)) 42,
   LL 16 (.move (.tmp 1)) 3,
   LL 17 (.call { callee:=(.value (.func 72)),args := #[(.tmp 15),(.tmp 16)],argTypes := #[42,3] }) 3,
   LL 1 (.assign (.tmp 17)) 3])) : Round Tryz.prog 19 [] mtx 42 1 body l.length (l.flatMap Ah) k:=by
 subst hb
 intro St w0 bs g cap j w T hnd hbs hj hI0 t0 t1 t5
 have hd : AX (l.flatMap Ah) = true:=Dc ZD l
 have hI0 : Inv Tryz.prog St mtx 42 l.length (l.flatMap Ah) k (.slice (some ⟨g,0,none⟩) l.length cap) bs w0 (j * 1 + 0) w:=hI0
 have t1 : T 1 = some (.int .i64 (k + (DX (l.flatMap Ah) (j * 1 + 0) : Int))):=t1
 have q0 : (l.flatMap Ah)[j * 1 + 0]? = some (oL 3 As (l[j])):=(G2 A8 hj (by decide)).trans rfl
 have b0:=I4 q0 h1
 have n0 : 0 <= k + (DX (l.flatMap Ah) (j * 1 + 0) : Int):=I5 h0
 have k0:=GI (l[j]) (k + (DX (l.flatMap Ah) (j * 1 + 0) : Int)) n0 b0
 obtain ⟨u0,c0,d0⟩:=hI0.own' hd hnd hbs q0 k0
 have d0 : Calls Tryz.prog 72 #[u0,.int .i64 (k + (DX (l.flatMap Ah) (j * 1 + 0) : Int))] w (fun e' w' => e' = .returned (.int .i64 (k + (DX (l.flatMap Ah) (j * 1 + 1) : Int))) ∧ Inv Tryz.prog St mtx 42 l.length (l.flatMap Ah) k (.slice (some ⟨g,0,none⟩) l.length cap) bs w0 (j * 1 + 1) w'):=d0
 refine BX (AI t0 (AI t5 (Mo ER rfl rfl rfl hj (Ii ER rfl rfl rfl c0 (AI t1 (Ga (G9 Wv) (args2 rfl rfl) (d0.mono ?_)))))))
 rintro e0 w1 ⟨rfl,hI1⟩
 refine ⟨_,rfl,EJ rfl (BW ?_)⟩
 exact ⟨rfl,t0,rfl,t5,hI1⟩
theorem Hi (l : List (List Int)) (k : Int) (h0 : 0 <= k) (h1 : k + BA (l.flatMap Ah) <= mB) : Hs Tryz.prog 71 (.own 42 l.length (l.flatMap Ah)) k (.own 42 l.length (I1 mtx (l.flatMap Ah) k)) (k + BA (l.flatMap Ah)) :=
 Jm ER (r:=18) (ty:=31) (it:=3) (bt:=4) XR (by decide) rfl (Av A8 l) (by decide) (O2 l k h0 h1 rfl)
def cH (x : Y32) : Nat:=(1) + (LH x.2)
def n9 (x : Y32) (k : Int) : Y32:=((k),R9 x.2 (k + ((1 : Nat) : Int)))
theorem pw (x : Y32) : AX (Ez x) = true:=(dpc rfl (dpc (dpo ZD _) rfl))
def PJ (x : AU) : Nat:=(1) + (cH x.2)
def Wy (x : AU) (k : Int) : AU:=(mtx (k),n9 x.2 (k + ((1 : Nat) : Int)))
theorem mu (x : AU) (k : Int) : I1 mtx (Ak x) k = Ak (Wy x k):=by
 have h : I1 mtx [.str x.1,nI x.2.1,oL 42 Ah x.2.2] k = _:=(mkc (n:=1) (c':=V.str _) rfl rfl (mkc (n:=1) (c':=V.int .i64 _) rfl rfl (mkc (NB gE Wj _ _) (F8 Wj _) (show I1 mtx [] _ = [] from rfl))))
 refine h.trans ?_
 simp only [Ak,Wy,PJ,Ez,LH,cH,R9,n9,Int.add_assoc,<- Int.natCast_add,Nat.add_assoc,Int.natCast_add]
theorem gC (x : AU) : BA (Ak x) = PJ x:=by
 have h : BA [.str x.1,nI x.2.1,oL 42 Ah x.2.2] = _:=(T6 (n:=1) rfl (T6 (n:=1) rfl (T6 (F8 Wj _) (show BA [] = 0 from rfl))))
 refine (show BA (Ak x) = _ from h).trans ?_
 simp only [PJ,Ez,LH,cH,R9,n9,Nat.add_assoc,Nat.add_zero]
theorem QE (x : AU) : AX (Ak x) = true:=(dpc rfl (dpc rfl (dpc (dpo ZD _) rfl)))
def Y9 (x : List AU) : Nat:=La PJ x
def jT (x : List AU) (k : Int) : List AU:=mkL PJ Wy x k
theorem Oy (l : List AU) (k : Int) (h0 : 0 <= k) (h1 : k + BA (l.flatMap Ak) <= mB) {body : LC} (hb : body = (.seq (.rgn [] [LL 12 (.move (.tmp 0)) 24,
   LL 13 (.move (.tmp 5)) 3,
   LL 14 (.move (.tmp 1)) 3,
   LL 15 (.call { callee:=(.value (.func 173)),args := #[(.tmp 14)],argTypes := #[3] }) 9,
   LL 16 (.indexAddr 24 (.tmp 12) (.tmp 13)) 0,
   LL 17 (.fieldAddr 123 (.tmp 16) 0) 0,
   ⟨none,(.store 9 (.tmp 17) (.tmp 15)),0,none⟩])
  (.seq (.rgn [] [LL 18 (.move (.tmp 1)) 3,
   LL 19 (.binOp .add 3 (.tmp 18) (.const (.int .i64 1)) 3) 3,
   LL 1 (.assign (.tmp 19)) 3])
  (.seq (.rgn [] [LL 20 (.move (.tmp 0)) 24,
   LL 21 (.move (.tmp 5)) 3,
   LL 22 (.move (.tmp 1)) 3,
   LL 23 (.indexAddr 24 (.tmp 20) (.tmp 21)) 0,
   LL 24 (.fieldAddr 123 (.tmp 23) 1) 0,
   LL 25 (.fieldAddr 33 (.tmp 24) 0) 0,
   ⟨none,(.store 3 (.tmp 25) (.tmp 22)),0,none⟩])
  (.seq (.rgn [] [LL 26 (.move (.tmp 1)) 3,
   LL 27 (.binOp .add 3 (.tmp 26) (.const (.int .i64 1)) 3) 3,
   LL 1 (.assign (.tmp 27)) 3])
  (.rgn [] [LL 28 (.move (.tmp 0)) 24,
   LL 29 (.move (.tmp 5)) 3,
   LL 30 (.indexAddr 24 (.tmp 28) (.tmp 29)) 0,
   LL 31 (.fieldAddr 123 (.tmp 30) 1) 0,
   LL 32 (.fieldAddr 33 (.tmp 31) 1) 0,
   LL 33 (.load 31 (.tmp 32)) 31,
   LL 34 (.move (.tmp 1)) 3,
   LL 35 (.call { callee:=(.value (.func 71)),args := #[(.tmp 33),(.tmp 34)],argTypes := #[31,3] }) 3,
   LL 1 (.assign (.tmp 35)) 3])))))) : Round Tryz.prog 37 [] mtx 123 3 body l.length (l.flatMap Ak) k:=by
 subst hb
 intro St w0 bs g cap j w T hnd hbs hj hI0 t0 t1 t5
 have hd : AX (l.flatMap Ak) = true:=Dc QE l
 have hI0 : Inv Tryz.prog St mtx 123 l.length (l.flatMap Ak) k (.slice (some ⟨g,0,none⟩) l.length cap) bs w0 (j * 3 + 0) w:=hI0
 have t1 : T 1 = some (.int .i64 (k + (DX (l.flatMap Ak) (j * 3 + 0) : Int))):=t1
 have q0 : (l.flatMap Ak)[j * 3 + 0]? = some (.str ((l[j]).1)):=(G2 DP hj (by decide)).trans rfl
 have b0:=I4 q0 h1
 rw [show Rc (.str ((l[j]).1)) = 1 from rfl] at b0
 have x0 : k + (DX (l.flatMap Ak) (j * 3 + 0) : Int) + 1 = k + (DX (l.flatMap Ak) (j * 3 + 1) : Int):=PN (k:=k) q0 rfl
 have n0 : 0 <= k + (DX (l.flatMap Ak) (j * 3 + 0) : Int):=I5 h0
 have q1 : (l.flatMap Ak)[j * 3 + 1]? = some (nI (((l[j]).2).1)):=(G2 DP hj (by decide)).trans rfl
 have b1:=I4 q1 h1
 rw [show Rc (nI (((l[j]).2).1)) = 1 from rfl] at b1
 have x1 : k + (DX (l.flatMap Ak) (j * 3 + 1) : Int) + 1 = k + (DX (l.flatMap Ak) (j * 3 + 2) : Int):=PN (k:=k) q1 rfl
 have n1 : 0 <= k + (DX (l.flatMap Ak) (j * 3 + 1) : Int):=I5 h0
 have q2 : (l.flatMap Ak)[j * 3 + 2]? = some (oL 42 Ah (((l[j]).2).2)):=(G2 DP hj (by decide)).trans rfl
 have b2:=I4 q2 h1
 have n2 : 0 <= k + (DX (l.flatMap Ak) (j * 3 + 2) : Int):=I5 h0
 refine Ch (BX (AI t0 (AI t5 (AI t1 (Ga bO (args1 rfl) ((Tl n0 (by omega) w).mono ?_))))))
 rintro e0 w1 ⟨rfl,z0⟩
 have hI0:=hI0.grow hd hbs z0
 obtain ⟨u0,c0,f0,hI1⟩:=hI0.str' hd hnd q0 (X1 n0 (by omega))
 refine ⟨_,rfl,Mo ER rfl rfl rfl hj (HR ER rfl rfl rfl (Lg ER rfl rfl rfl rfl c0 f0 rfl (BW ?_)))⟩
 generalize hw2 : World.setCell _ _ _ = w2 at hI1 ⊢
 refine Ch (BX (AI t1 (OJ rfl (by omega) (by unfold mB at b0; omega) (EJ rfl (BW ?_)))))
 rw [x0]
 obtain ⟨u1,c1,f1,hI2⟩:=hI1.int' hd hnd q1
 refine Ch (BX (AI t0 (AI t5 (AI rfl (Mo ER rfl rfl rfl hj (HR ER rfl rfl rfl (HR ER rfl rfl rfl (Lg ER rfl rfl rfl rfl c1 f1 rfl (BW ?_)))))))))
 generalize hw3 : World.setCell _ _ _ = w3 at hI2 ⊢
 refine Ch (BX (AI rfl (OJ rfl (by omega) (by unfold mB at b1; omega) (EJ rfl (BW ?_)))))
 rw [x1]
 have k2:=Hi (((l[j]).2).2) (k + (DX (l.flatMap Ak) (j * 3 + 2) : Int)) n2 b2
 obtain ⟨u2,c2,d2⟩:=hI2.own' hd hnd hbs q2 k2
 have d2 : Calls Tryz.prog 71 #[u2,.int .i64 (k + (DX (l.flatMap Ak) (j * 3 + 2) : Int))] w3 (fun e' w' => e' = .returned (.int .i64 (k + (DX (l.flatMap Ak) (j * 3 + 3) : Int))) ∧ Inv Tryz.prog St mtx 123 l.length (l.flatMap Ak) k (.slice (some ⟨g,0,none⟩) l.length cap) bs w0 (j * 3 + 3) w'):=d2
 refine BX (AI t0 (AI t5 (Mo ER rfl rfl rfl hj (HR ER rfl rfl rfl (HR ER rfl rfl rfl (Ii ER rfl rfl rfl c2 (AI rfl (Ga (G9 XR) (args2 rfl rfl) (d2.mono ?_)))))))))
 rintro e2 w4 ⟨rfl,hI3⟩
 refine ⟨_,rfl,EJ rfl (BW ?_)⟩
 exact ⟨rfl,t0,rfl,t5,hI3⟩
theorem Ol (l : List AU) (k : Int) (h0 : 0 <= k) (h1 : k + BA (l.flatMap Ak) <= mB) : Hs Tryz.prog 136 (.own 123 l.length (l.flatMap Ak)) k (.own 123 l.length (I1 mtx (l.flatMap Ak) k)) (k + BA (l.flatMap Ak)) :=
 Jm ER (r:=36) (ty:=24) (it:=3) (bt:=4) bG (by decide) rfl (Av DP l) (by decide) (Oy l k h0 h1 rfl)
theorem pu (x : List AU) : AX (IW x) = true:=(dpc (dpo QE _) rfl)
def SO (x : List AU) : Nat:=Y9 x
def jZ (x : List AU) (k : Int) : List AU:=jT x (k)
theorem MT (x : List AU) (k : Int) (h0 : 0 <= k) (h1 : k + G4 (IW x) <= mB) : Hs Tryz.prog 68 (.agg (IW x)) k (.agg (mkA mtx (IW x) k)) (k + G4 (IW x)):=by
 refine ⟨G9 du,fun w0 St v bs hO hnd hbs => ?_⟩
 obtain ⟨us,rfl,hO⟩:=hO
 refine Nh (rs:=[]) (vs:=[.agg us.toArray,.int .i64 k]) du (Nat.le_of_ble_eq_true rfl) ?_
 have hd : AX (IW x) = true:=pu x
 have hI0:=Q1.start (mt:=mtx) (k:=k) (t:=26) hO hd hbs
 refine Ch (BX (Vt rfl (Oq (BW ?_))))
 have q0 : (IW x)[0]? = some (oL 123 Ak x):=rfl
 obtain ⟨u0,c0,d0⟩:=hI0.own hd hnd hbs q0 (Ol x (k + (G4 ((IW x).take 0) : Int)) (by omega) (Rv q0 h1))
 refine Ch (BX (HR ER rfl rfl rfl (Ii ER rfl rfl rfl c0 (AI (lD (k:=k) (n:=G4 ((IW x).take 0)) rfl) (Ga (G9 bG) (args2 rfl rfl) (d0.mono ?_))))))
 rintro e0 w1 ⟨rfl,hI1⟩
 refine ⟨_,rfl,EJ rfl (BW ?_)⟩
 obtain ⟨hx,hy⟩:=hI1.done (Nat.le_of_ble_eq_true rfl)
 refine Ch (BX (AI rfl (EJ rfl (BW ?_))))
 exact Tk ⟨.inl rfl,_,rfl,rfl,⟨us,rfl,hx⟩,hy⟩
def PK (x : CA) : Nat:=(1) + (Jk x.2)
def Wz (x : CA) (k : Int) : CA:=(mtx (k),Om x.2 (k + ((1 : Nat) : Int)))
theorem mw (x : CA) (k : Int) : I1 mtx (Bk x) k = Bk (Wz x k):=by
 have h : I1 mtx [.str x.1,oL 3 As x.2] k = _:=(mkc (n:=1) (c':=V.str _) rfl rfl (mkc (NB hmI hcI _ _) (F8 hcI _) (show I1 mtx [] _ = [] from rfl)))
 refine h.trans ?_
 simp only [Bk,Wz,PK,Jk,Om,Int.add_assoc,<- Int.natCast_add,Nat.add_assoc,Int.natCast_add]
theorem c6 (x : CA) : BA (Bk x) = PK x:=by
 have h : BA [.str x.1,oL 3 As x.2] = _:=(T6 (n:=1) rfl (T6 (F8 hcI _) (show BA [] = 0 from rfl)))
 refine (show BA (Bk x) = _ from h).trans ?_
 simp only [PK,Jk,Om,Nat.add_assoc,Nat.add_zero]
theorem ga (x : CA) : AX (Bk x) = true:=(dpc rfl (dpc (dpo (fun _ => rfl) _) rfl))
def Nc (x : List CA) : Nat:=La PK x
def dC (x : List CA) (k : Int) : List CA:=mkL PK Wz x k
theorem O1 (l : List CA) (k : Int) (h0 : 0 <= k) (h1 : k + BA (l.flatMap Bk) <= mB) {body : LC} (hb : body = (.seq (.rgn [] [LL 12 (.move (.tmp 0)) 50,
   LL 13 (.move (.tmp 5)) 3,
   LL 14 (.move (.tmp 1)) 3,
   LL 15 (.call { callee:=(.value (.func 173)),args := #[(.tmp 14)],argTypes := #[3] }) 9,
   LL 16 (.indexAddr 50 (.tmp 12) (.tmp 13)) 0,
   LL 17 (.fieldAddr 146 (.tmp 16) 0) 0,
   ⟨none,(.store 9 (.tmp 17) (.tmp 15)),0,none⟩])
  (.seq (.rgn [] [LL 18 (.move (.tmp 1)) 3,
   LL 19 (.binOp .add 3 (.tmp 18) (.const (.int .i64 1)) 3) 3,
   LL 1 (.assign (.tmp 19)) 3])
  (.rgn [] [LL 20 (.move (.tmp 0)) 50,
   LL 21 (.move (.tmp 5)) 3,
   LL 22 (.indexAddr 50 (.tmp 20) (.tmp 21)) 0,
   LL 23 (.fieldAddr 146 (.tmp 22) 1) 0,
   LL 24 (.load 42 (.tmp 23)) 42,
   LL 25 (.move (.tmp 1)) 3,
   LL 26 (.call { callee:=(.value (.func 72)),args := #[(.tmp 24),(.tmp 25)],argTypes := #[42,3] }) 3,
   LL 1 (.assign (.tmp 26)) 3])))) : Round Tryz.prog 28 [] mtx 146 2 body l.length (l.flatMap Bk) k:=by
 subst hb
 intro St w0 bs g cap j w T hnd hbs hj hI0 t0 t1 t5
 have hd : AX (l.flatMap Bk) = true:=Dc ga l
 have hI0 : Inv Tryz.prog St mtx 146 l.length (l.flatMap Bk) k (.slice (some ⟨g,0,none⟩) l.length cap) bs w0 (j * 2 + 0) w:=hI0
 have t1 : T 1 = some (.int .i64 (k + (DX (l.flatMap Bk) (j * 2 + 0) : Int))):=t1
 have q0 : (l.flatMap Bk)[j * 2 + 0]? = some (.str ((l[j]).1)):=(G2 Mc hj (by decide)).trans rfl
 have b0:=I4 q0 h1
 rw [show Rc (.str ((l[j]).1)) = 1 from rfl] at b0
 have x0 : k + (DX (l.flatMap Bk) (j * 2 + 0) : Int) + 1 = k + (DX (l.flatMap Bk) (j * 2 + 1) : Int):=PN (k:=k) q0 rfl
 have n0 : 0 <= k + (DX (l.flatMap Bk) (j * 2 + 0) : Int):=I5 h0
 have q1 : (l.flatMap Bk)[j * 2 + 1]? = some (oL 3 As ((l[j]).2)):=(G2 Mc hj (by decide)).trans rfl
 have b1:=I4 q1 h1
 have n1 : 0 <= k + (DX (l.flatMap Bk) (j * 2 + 1) : Int):=I5 h0
 refine Ch (BX (AI t0 (AI t5 (AI t1 (Ga bO (args1 rfl) ((Tl n0 (by omega) w).mono ?_))))))
 rintro e0 w1 ⟨rfl,z0⟩
 have hI0:=hI0.grow hd hbs z0
 obtain ⟨u0,c0,f0,hI1⟩:=hI0.str' hd hnd q0 (X1 n0 (by omega))
 refine ⟨_,rfl,Mo ER rfl rfl rfl hj (HR ER rfl rfl rfl (Lg ER rfl rfl rfl rfl c0 f0 rfl (BW ?_)))⟩
 generalize hw2 : World.setCell _ _ _ = w2 at hI1 ⊢
 refine Ch (BX (AI t1 (OJ rfl (by omega) (by unfold mB at b0; omega) (EJ rfl (BW ?_)))))
 rw [x0]
 have k1:=GI ((l[j]).2) (k + (DX (l.flatMap Bk) (j * 2 + 1) : Int)) n1 b1
 obtain ⟨u1,c1,d1⟩:=hI1.own' hd hnd hbs q1 k1
 have d1 : Calls Tryz.prog 72 #[u1,.int .i64 (k + (DX (l.flatMap Bk) (j * 2 + 1) : Int))] w2 (fun e' w' => e' = .returned (.int .i64 (k + (DX (l.flatMap Bk) (j * 2 + 2) : Int))) ∧ Inv Tryz.prog St mtx 146 l.length (l.flatMap Bk) k (.slice (some ⟨g,0,none⟩) l.length cap) bs w0 (j * 2 + 2) w'):=d1
 refine BX (AI t0 (AI t5 (Mo ER rfl rfl rfl hj (HR ER rfl rfl rfl (Ii ER rfl rfl rfl c1 (AI rfl (Ga (G9 Wv) (args2 rfl rfl) (d1.mono ?_))))))))
 rintro e1 w3 ⟨rfl,hI2⟩
 refine ⟨_,rfl,EJ rfl (BW ?_)⟩
 exact ⟨rfl,t0,rfl,t5,hI2⟩
theorem OY (l : List CA) (k : Int) (h0 : 0 <= k) (h1 : k + BA (l.flatMap Bk) <= mB) : Hs Tryz.prog 137 (.own 146 l.length (l.flatMap Bk)) k (.own 146 l.length (I1 mtx (l.flatMap Bk) k)) (k + BA (l.flatMap Bk)) :=
 Jm ER (r:=27) (ty:=50) (it:=3) (bt:=4) bH (by decide) rfl (Av Mc l) (by decide) (O1 l k h0 h1 rfl)
def W6 (x : Y51) : Nat:=(1) + (Nc x.2.1) + (Jk x.2.2)
def oa (x : Y51) (k : Int) : Y51:=((k),dC x.2.1 (k + ((1 : Nat) : Int)),Om x.2.2 (k + ((1 : Nat) : Int) + ((Nc x.2.1 : Nat) : Int)))
def QD (x : Y43) : Nat:=(1) + (LH x.2.1) + (Jk x.2.2)
def WH (x : Y43) (k : Int) : Y43:=((k),R9 x.2.1 (k + ((1 : Nat) : Int)),Om x.2.2 (k + ((1 : Nat) : Int) + ((LH x.2.1 : Nat) : Int)))
theorem oS (x : Y43) (k : Int) : I1 mtx (Al x) k = Al (WH x k):=by
 have h : I1 mtx [nI x.1,oL 42 Ah x.2.1,oL 3 As x.2.2] k = _:=(mkc (n:=1) (c':=V.int .i64 _) rfl rfl (mkc (NB gE Wj _ _) (F8 Wj _) (mkc (NB hmI hcI _ _) (F8 hcI _) (show I1 mtx [] _ = [] from rfl))))
 refine h.trans ?_
 simp only [Al,WH,QD,LH,Jk,R9,Om,Int.add_assoc,<- Int.natCast_add,Nat.add_assoc,Int.natCast_add]
theorem lg (x : Y43) : BA (Al x) = QD x:=by
 have h : BA [nI x.1,oL 42 Ah x.2.1,oL 3 As x.2.2] = _:=(T6 (n:=1) rfl (T6 (F8 Wj _) (T6 (F8 hcI _) (show BA [] = 0 from rfl))))
 refine (show BA (Al x) = _ from h).trans ?_
 simp only [QD,LH,Jk,R9,Om,Nat.add_assoc,Nat.add_zero]
theorem S6 (x : Y43) : AX (Al x) = true:=(dpc rfl (dpc (dpo ZD _) (dpc (dpo (fun _ => rfl) _) rfl)))
def W7 (x : Y53) : Nat:=(W6 x.1) + (QD x.2)
def fo (x : Y53) (k : Int) : Y53:=(oa x.1 (k),WH x.2 (k + ((W6 x.1 : Nat) : Int)))
theorem pz (x : Y53) (k : Int) : I1 mtx (Ag x) k = Ag (fo x k):=by
 have h : I1 mtx [nI x.1.1,oL 146 Bk x.1.2.1,oL 3 As x.1.2.2,nI x.2.1,oL 42 Ah x.2.2.1,oL 3 As x.2.2.2] k = _:=(mkc (n:=1) (c':=V.int .i64 _) rfl rfl (mkc (NB mw c6 _ _) (F8 c6 _) (mkc (NB hmI hcI _ _) (F8 hcI _) (mkc (n:=1) (c':=V.int .i64 _) rfl rfl (mkc (NB gE Wj _ _) (F8 Wj _) (mkc (NB hmI hcI _ _) (F8 hcI _) (show I1 mtx [] _ = [] from rfl)))))))
 refine h.trans ?_
 simp only [Ag,fo,W7,Al,PI,LH,Jk,QD,Nc,W6,R9,Om,WH,dC,oa,Int.add_assoc,<- Int.natCast_add,Nat.add_assoc,Int.natCast_add]
theorem oR (x : Y53) : BA (Ag x) = W7 x:=by
 have h : BA [nI x.1.1,oL 146 Bk x.1.2.1,oL 3 As x.1.2.2,nI x.2.1,oL 42 Ah x.2.2.1,oL 3 As x.2.2.2] = _:=(T6 (n:=1) rfl (T6 (F8 c6 _) (T6 (F8 hcI _) (T6 (n:=1) rfl (T6 (F8 Wj _) (T6 (F8 hcI _) (show BA [] = 0 from rfl)))))))
 refine (show BA (Ag x) = _ from h).trans ?_
 simp only [W7,Al,PI,LH,Jk,QD,Nc,W6,R9,Om,WH,dC,oa,Nat.add_assoc,Nat.add_zero]
theorem ZE (x : Y53) : AX (Ag x) = true:=(dpc rfl (dpc (dpo ga _) (dpc (dpo (fun _ => rfl) _) (dpc rfl (dpc (dpo ZD _) (dpc (dpo (fun _ => rfl) _) rfl))))))
def V9 (x : List Y53) : Nat:=La W7 x
def jU (x : List Y53) (k : Int) : List Y53:=mkL W7 fo x k
theorem O3 (l : List Y53) (k : Int) (h0 : 0 <= k) (h1 : k + BA (l.flatMap Ag) <= mB) {body : LC} (hb : body = (.seq (.rgn [] [LL 12 (.move (.tmp 0)) 27,
   LL 13 (.move (.tmp 5)) 3,
   LL 14 (.move (.tmp 1)) 3,
   LL 15 (.indexAddr 27 (.tmp 12) (.tmp 13)) 0,
   LL 16 (.fieldAddr 54 (.tmp 15) 0) 0,
   LL 17 (.fieldAddr 52 (.tmp 16) 0) 0,
   ⟨none,(.store 3 (.tmp 17) (.tmp 14)),0,none⟩])
  (.seq (.rgn [] [LL 18 (.move (.tmp 1)) 3,
   LL 19 (.binOp .add 3 (.tmp 18) (.const (.int .i64 1)) 3) 3,
   LL 1 (.assign (.tmp 19)) 3])
  (.seq (.rgn [] [LL 20 (.move (.tmp 0)) 27,
   LL 21 (.move (.tmp 5)) 3,
   LL 22 (.indexAddr 27 (.tmp 20) (.tmp 21)) 0,
   LL 23 (.fieldAddr 54 (.tmp 22) 0) 0,
   LL 24 (.fieldAddr 52 (.tmp 23) 1) 0,
   LL 25 (.load 50 (.tmp 24)) 50,
   LL 26 (.move (.tmp 1)) 3,
   LL 27 (.call { callee:=(.value (.func 137)),args := #[(.tmp 25),(.tmp 26)],argTypes := #[50,3] }) 3,
   LL 1 (.assign (.tmp 27)) 3])
  (.seq (.rgn [] [LL 28 (.move (.tmp 0)) 27,
   LL 29 (.move (.tmp 5)) 3,
   LL 30 (.indexAddr 27 (.tmp 28) (.tmp 29)) 0,
   LL 31 (.fieldAddr 54 (.tmp 30) 0) 0,
   LL 32 (.fieldAddr 52 (.tmp 31) 2) 0,
   LL 33 (.load 42 (.tmp 32)) 42,
   LL 34 (.move (.tmp 1)) 3,
   LL 35 (.call { callee:=(.value (.func 72)),args := #[(.tmp 33),(.tmp 34)],argTypes := #[42,3] }) 3,
   LL 1 (.assign (.tmp 35)) 3])
  (.seq (.rgn [] [LL 36 (.move (.tmp 0)) 27,
   LL 37 (.move (.tmp 5)) 3,
   LL 38 (.move (.tmp 1)) 3,
   LL 39 (.indexAddr 27 (.tmp 36) (.tmp 37)) 0,
   LL 40 (.fieldAddr 54 (.tmp 39) 1) 0,
   LL 41 (.fieldAddr 44 (.tmp 40) 0) 0,
   ⟨none,(.store 3 (.tmp 41) (.tmp 38)),0,none⟩])
  (.seq (.rgn [] [LL 42 (.move (.tmp 1)) 3,
   LL 43 (.binOp .add 3 (.tmp 42) (.const (.int .i64 1)) 3) 3,
   LL 1 (.assign (.tmp 43)) 3])
  (.seq (.rgn [] [LL 44 (.move (.tmp 0)) 27,
   LL 45 (.move (.tmp 5)) 3,
   LL 46 (.indexAddr 27 (.tmp 44) (.tmp 45)) 0,
   LL 47 (.fieldAddr 54 (.tmp 46) 1) 0,
   LL 48 (.fieldAddr 44 (.tmp 47) 1) 0,
   LL 49 (.load 31 (.tmp 48)) 31,
   LL 50 (.move (.tmp 1)) 3,
   LL 51 (.call { callee:=(.value (.func 71)),args := #[(.tmp 49),(.tmp 50)],argTypes := #[31,3] }) 3,
   LL 1 (.assign (.tmp 51)) 3])
  (.rgn [] [LL 52 (.move (.tmp 0)) 27,
   LL 53 (.move (.tmp 5)) 3,
   LL 54 (.indexAddr 27 (.tmp 52) (.tmp 53)) 0,
   LL 55 (.fieldAddr 54 (.tmp 54) 1) 0,
   LL 56 (.fieldAddr 44 (.tmp 55) 2) 0,
   LL 57 (.load 42 (.tmp 56)) 42,
   LL 58 (.move (.tmp 1)) 3,
   LL 59 (.call { callee:=(.value (.func 72)),args := #[(.tmp 57),(.tmp 58)],argTypes := #[42,3] }) 3,
   LL 1 (.assign (.tmp 59)) 3]))))))))) : Round Tryz.prog 61 [] mtx 54 6 body l.length (l.flatMap Ag) k:=by
 subst hb
 intro St w0 bs g cap j w T hnd hbs hj hI0 t0 t1 t5
 have hd : AX (l.flatMap Ag) = true:=Dc ZE l
 have hI0 : Inv Tryz.prog St mtx 54 l.length (l.flatMap Ag) k (.slice (some ⟨g,0,none⟩) l.length cap) bs w0 (j * 6 + 0) w:=hI0
 have t1 : T 1 = some (.int .i64 (k + (DX (l.flatMap Ag) (j * 6 + 0) : Int))):=t1
 have q0 : (l.flatMap Ag)[j * 6 + 0]? = some (nI (((l[j]).1).1)):=(G2 Cn hj (by decide)).trans rfl
 have b0:=I4 q0 h1
 rw [show Rc (nI (((l[j]).1).1)) = 1 from rfl] at b0
 have x0 : k + (DX (l.flatMap Ag) (j * 6 + 0) : Int) + 1 = k + (DX (l.flatMap Ag) (j * 6 + 1) : Int):=PN (k:=k) q0 rfl
 have n0 : 0 <= k + (DX (l.flatMap Ag) (j * 6 + 0) : Int):=I5 h0
 have q1 : (l.flatMap Ag)[j * 6 + 1]? = some (oL 146 Bk (((l[j]).1).2.1)):=(G2 Cn hj (by decide)).trans rfl
 have b1:=I4 q1 h1
 have n1 : 0 <= k + (DX (l.flatMap Ag) (j * 6 + 1) : Int):=I5 h0
 have q2 : (l.flatMap Ag)[j * 6 + 2]? = some (oL 3 As (((l[j]).1).2.2)):=(G2 Cn hj (by decide)).trans rfl
 have b2:=I4 q2 h1
 have n2 : 0 <= k + (DX (l.flatMap Ag) (j * 6 + 2) : Int):=I5 h0
 have q3 : (l.flatMap Ag)[j * 6 + 3]? = some (nI (((l[j]).2).1)):=(G2 Cn hj (by decide)).trans rfl
 have b3:=I4 q3 h1
 rw [show Rc (nI (((l[j]).2).1)) = 1 from rfl] at b3
 have x3 : k + (DX (l.flatMap Ag) (j * 6 + 3) : Int) + 1 = k + (DX (l.flatMap Ag) (j * 6 + 4) : Int):=PN (k:=k) q3 rfl
 have n3 : 0 <= k + (DX (l.flatMap Ag) (j * 6 + 3) : Int):=I5 h0
 have q4 : (l.flatMap Ag)[j * 6 + 4]? = some (oL 42 Ah (((l[j]).2).2.1)):=(G2 Cn hj (by decide)).trans rfl
 have b4:=I4 q4 h1
 have n4 : 0 <= k + (DX (l.flatMap Ag) (j * 6 + 4) : Int):=I5 h0
 have q5 : (l.flatMap Ag)[j * 6 + 5]? = some (oL 3 As (((l[j]).2).2.2)):=(G2 Cn hj (by decide)).trans rfl
 have b5:=I4 q5 h1
 have n5 : 0 <= k + (DX (l.flatMap Ag) (j * 6 + 5) : Int):=I5 h0
 obtain ⟨u0,c0,f0,hI1⟩:=hI0.int' hd hnd q0
 refine Ch (BX (AI t0 (AI t5 (AI t1 (Mo ER rfl rfl rfl hj (HR ER rfl rfl rfl (HR ER rfl rfl rfl (Lg ER rfl rfl rfl rfl c0 f0 rfl (BW ?_)))))))))
 generalize hw1 : World.setCell _ _ _ = w1 at hI1 ⊢
 refine Ch (BX (AI t1 (OJ rfl (by omega) (by unfold mB at b0; omega) (EJ rfl (BW ?_)))))
 rw [x0]
 have k1:=OY (((l[j]).1).2.1) (k + (DX (l.flatMap Ag) (j * 6 + 1) : Int)) n1 b1
 obtain ⟨u1,c1,d1⟩:=hI1.own' hd hnd hbs q1 k1
 have d1 : Calls Tryz.prog 137 #[u1,.int .i64 (k + (DX (l.flatMap Ag) (j * 6 + 1) : Int))] w1 (fun e' w' => e' = .returned (.int .i64 (k + (DX (l.flatMap Ag) (j * 6 + 2) : Int))) ∧ Inv Tryz.prog St mtx 54 l.length (l.flatMap Ag) k (.slice (some ⟨g,0,none⟩) l.length cap) bs w0 (j * 6 + 2) w'):=d1
 refine Ch (BX (AI t0 (AI t5 (Mo ER rfl rfl rfl hj (HR ER rfl rfl rfl (HR ER rfl rfl rfl (Ii ER rfl rfl rfl c1 (AI rfl (Ga (G9 bH) (args2 rfl rfl) (d1.mono ?_))))))))))
 rintro e1 w2 ⟨rfl,hI2⟩
 refine ⟨_,rfl,EJ rfl (BW ?_)⟩
 have k2:=GI (((l[j]).1).2.2) (k + (DX (l.flatMap Ag) (j * 6 + 2) : Int)) n2 b2
 obtain ⟨u2,c2,d2⟩:=hI2.own' hd hnd hbs q2 k2
 have d2 : Calls Tryz.prog 72 #[u2,.int .i64 (k + (DX (l.flatMap Ag) (j * 6 + 2) : Int))] w2 (fun e' w' => e' = .returned (.int .i64 (k + (DX (l.flatMap Ag) (j * 6 + 3) : Int))) ∧ Inv Tryz.prog St mtx 54 l.length (l.flatMap Ag) k (.slice (some ⟨g,0,none⟩) l.length cap) bs w0 (j * 6 + 3) w'):=d2
 refine Ch (BX (AI t0 (AI t5 (Mo ER rfl rfl rfl hj (HR ER rfl rfl rfl (HR ER rfl rfl rfl (Ii ER rfl rfl rfl c2 (AI rfl (Ga (G9 Wv) (args2 rfl rfl) (d2.mono ?_))))))))))
 rintro e2 w3 ⟨rfl,hI3⟩
 refine ⟨_,rfl,EJ rfl (BW ?_)⟩
 obtain ⟨u3,c3,f3,hI4⟩:=hI3.int' hd hnd q3
 refine Ch (BX (AI t0 (AI t5 (AI rfl (Mo ER rfl rfl rfl hj (HR ER rfl rfl rfl (HR ER rfl rfl rfl (Lg ER rfl rfl rfl rfl c3 f3 rfl (BW ?_)))))))))
 generalize hw4 : World.setCell _ _ _ = w4 at hI4 ⊢
 refine Ch (BX (AI rfl (OJ rfl (by omega) (by unfold mB at b3; omega) (EJ rfl (BW ?_)))))
 rw [x3]
 have k4:=Hi (((l[j]).2).2.1) (k + (DX (l.flatMap Ag) (j * 6 + 4) : Int)) n4 b4
 obtain ⟨u4,c4,d4⟩:=hI4.own' hd hnd hbs q4 k4
 have d4 : Calls Tryz.prog 71 #[u4,.int .i64 (k + (DX (l.flatMap Ag) (j * 6 + 4) : Int))] w4 (fun e' w' => e' = .returned (.int .i64 (k + (DX (l.flatMap Ag) (j * 6 + 5) : Int))) ∧ Inv Tryz.prog St mtx 54 l.length (l.flatMap Ag) k (.slice (some ⟨g,0,none⟩) l.length cap) bs w0 (j * 6 + 5) w'):=d4
 refine Ch (BX (AI t0 (AI t5 (Mo ER rfl rfl rfl hj (HR ER rfl rfl rfl (HR ER rfl rfl rfl (Ii ER rfl rfl rfl c4 (AI rfl (Ga (G9 XR) (args2 rfl rfl) (d4.mono ?_))))))))))
 rintro e4 w5 ⟨rfl,hI5⟩
 refine ⟨_,rfl,EJ rfl (BW ?_)⟩
 have k5:=GI (((l[j]).2).2.2) (k + (DX (l.flatMap Ag) (j * 6 + 5) : Int)) n5 b5
 obtain ⟨u5,c5,d5⟩:=hI5.own' hd hnd hbs q5 k5
 have d5 : Calls Tryz.prog 72 #[u5,.int .i64 (k + (DX (l.flatMap Ag) (j * 6 + 5) : Int))] w5 (fun e' w' => e' = .returned (.int .i64 (k + (DX (l.flatMap Ag) (j * 6 + 6) : Int))) ∧ Inv Tryz.prog St mtx 54 l.length (l.flatMap Ag) k (.slice (some ⟨g,0,none⟩) l.length cap) bs w0 (j * 6 + 6) w'):=d5
 refine BX (AI t0 (AI t5 (Mo ER rfl rfl rfl hj (HR ER rfl rfl rfl (HR ER rfl rfl rfl (Ii ER rfl rfl rfl c5 (AI rfl (Ga (G9 Wv) (args2 rfl rfl) (d5.mono ?_)))))))))
 rintro e5 w6 ⟨rfl,hI6⟩
 refine ⟨_,rfl,EJ rfl (BW ?_)⟩
 exact ⟨rfl,t0,rfl,t5,hI6⟩
theorem O0 (l : List Y53) (k : Int) (h0 : 0 <= k) (h1 : k + BA (l.flatMap Ag) <= mB) : Hs Tryz.prog 69 (.own 54 l.length (l.flatMap Ag)) k (.own 54 l.length (I1 mtx (l.flatMap Ag) k)) (k + BA (l.flatMap Ag)) :=
 Jm ER (r:=60) (ty:=27) (it:=3) (bt:=4) jO (by decide) rfl (Av Cn l) (by decide) (O3 l k h0 h1 rfl)
def T5 (x : List Y43) : Nat:=La QD x
def dB (x : List Y43) (k : Int) : List Y43:=mkL QD WH x k
theorem JS (l : List Y43) (k : Int) (h0 : 0 <= k) (h1 : k + BA (l.flatMap Al) <= mB) {body : LC} (hb : body = (.seq (.rgn [] [LL 12 (.move (.tmp 0)) 28,
   LL 13 (.move (.tmp 5)) 3,
   LL 14 (.move (.tmp 1)) 3,
   LL 15 (.indexAddr 28 (.tmp 12) (.tmp 13)) 0,
   LL 16 (.fieldAddr 44 (.tmp 15) 0) 0,
   ⟨none,(.store 3 (.tmp 16) (.tmp 14)),0,none⟩])
  (.seq (.rgn [] [LL 17 (.move (.tmp 1)) 3,
   LL 18 (.binOp .add 3 (.tmp 17) (.const (.int .i64 1)) 3) 3,
   LL 1 (.assign (.tmp 18)) 3])
  (.seq (.rgn [] [LL 19 (.move (.tmp 0)) 28,
   LL 20 (.move (.tmp 5)) 3,
   LL 21 (.indexAddr 28 (.tmp 19) (.tmp 20)) 0,
   LL 22 (.fieldAddr 44 (.tmp 21) 1) 0,
   LL 23 (.load 31 (.tmp 22)) 31,
   LL 24 (.move (.tmp 1)) 3,
   LL 25 (.call { callee:=(.value (.func 71)),args := #[(.tmp 23),(.tmp 24)],argTypes := #[31,3] }) 3,
   LL 1 (.assign (.tmp 25)) 3])
  (.rgn [] [LL 26 (.move (.tmp 0)) 28,
   LL 27 (.move (.tmp 5)) 3,
   LL 28 (.indexAddr 28 (.tmp 26) (.tmp 27)) 0,
   LL 29 (.fieldAddr 44 (.tmp 28) 2) 0,
   LL 30 (.load 42 (.tmp 29)) 42,
   LL 31 (.move (.tmp 1)) 3,
   LL 32 (.call { callee:=(.value (.func 72)),args := #[(.tmp 30),(.tmp 31)],argTypes := #[42,3] }) 3,
   LL 1 (.assign (.tmp 32)) 3]))))) : Round Tryz.prog 34 [] mtx 44 3 body l.length (l.flatMap Al) k:=by
 subst hb
 intro St w0 bs g cap j w T hnd hbs hj hI0 t0 t1 t5
 have hd : AX (l.flatMap Al) = true:=Dc S6 l
 have hI0 : Inv Tryz.prog St mtx 44 l.length (l.flatMap Al) k (.slice (some ⟨g,0,none⟩) l.length cap) bs w0 (j * 3 + 0) w:=hI0
 have t1 : T 1 = some (.int .i64 (k + (DX (l.flatMap Al) (j * 3 + 0) : Int))):=t1
 have q0 : (l.flatMap Al)[j * 3 + 0]? = some (nI ((l[j]).1)):=(G2 ES hj (by decide)).trans rfl
 have b0:=I4 q0 h1
 rw [show Rc (nI ((l[j]).1)) = 1 from rfl] at b0
 have x0 : k + (DX (l.flatMap Al) (j * 3 + 0) : Int) + 1 = k + (DX (l.flatMap Al) (j * 3 + 1) : Int):=PN (k:=k) q0 rfl
 have n0 : 0 <= k + (DX (l.flatMap Al) (j * 3 + 0) : Int):=I5 h0
 have q1 : (l.flatMap Al)[j * 3 + 1]? = some (oL 42 Ah ((l[j]).2.1)):=(G2 ES hj (by decide)).trans rfl
 have b1:=I4 q1 h1
 have n1 : 0 <= k + (DX (l.flatMap Al) (j * 3 + 1) : Int):=I5 h0
 have q2 : (l.flatMap Al)[j * 3 + 2]? = some (oL 3 As ((l[j]).2.2)):=(G2 ES hj (by decide)).trans rfl
 have b2:=I4 q2 h1
 have n2 : 0 <= k + (DX (l.flatMap Al) (j * 3 + 2) : Int):=I5 h0
 obtain ⟨u0,c0,f0,hI1⟩:=hI0.int' hd hnd q0
 refine Ch (BX (AI t0 (AI t5 (AI t1 (Mo ER rfl rfl rfl hj (HR ER rfl rfl rfl (Lg ER rfl rfl rfl rfl c0 f0 rfl (BW ?_))))))))
 generalize hw1 : World.setCell _ _ _ = w1 at hI1 ⊢
 refine Ch (BX (AI t1 (OJ rfl (by omega) (by unfold mB at b0; omega) (EJ rfl (BW ?_)))))
 rw [x0]
 have k1:=Hi ((l[j]).2.1) (k + (DX (l.flatMap Al) (j * 3 + 1) : Int)) n1 b1
 obtain ⟨u1,c1,d1⟩:=hI1.own' hd hnd hbs q1 k1
 have d1 : Calls Tryz.prog 71 #[u1,.int .i64 (k + (DX (l.flatMap Al) (j * 3 + 1) : Int))] w1 (fun e' w' => e' = .returned (.int .i64 (k + (DX (l.flatMap Al) (j * 3 + 2) : Int))) ∧ Inv Tryz.prog St mtx 44 l.length (l.flatMap Al) k (.slice (some ⟨g,0,none⟩) l.length cap) bs w0 (j * 3 + 2) w'):=d1
 refine Ch (BX (AI t0 (AI t5 (Mo ER rfl rfl rfl hj (HR ER rfl rfl rfl (Ii ER rfl rfl rfl c1 (AI rfl (Ga (G9 XR) (args2 rfl rfl) (d1.mono ?_)))))))))
 rintro e1 w2 ⟨rfl,hI2⟩
 refine ⟨_,rfl,EJ rfl (BW ?_)⟩
 have k2:=GI ((l[j]).2.2) (k + (DX (l.flatMap Al) (j * 3 + 2) : Int)) n2 b2
 obtain ⟨u2,c2,d2⟩:=hI2.own' hd hnd hbs q2 k2
 have d2 : Calls Tryz.prog 72 #[u2,.int .i64 (k + (DX (l.flatMap Al) (j * 3 + 2) : Int))] w2 (fun e' w' => e' = .returned (.int .i64 (k + (DX (l.flatMap Al) (j * 3 + 3) : Int))) ∧ Inv Tryz.prog St mtx 44 l.length (l.flatMap Al) k (.slice (some ⟨g,0,none⟩) l.length cap) bs w0 (j * 3 + 3) w'):=d2
 refine BX (AI t0 (AI t5 (Mo ER rfl rfl rfl hj (HR ER rfl rfl rfl (Ii ER rfl rfl rfl c2 (AI rfl (Ga (G9 Wv) (args2 rfl rfl) (d2.mono ?_))))))))
 rintro e2 w3 ⟨rfl,hI3⟩
 refine ⟨_,rfl,EJ rfl (BW ?_)⟩
 exact ⟨rfl,t0,rfl,t5,hI3⟩
theorem GH (l : List Y43) (k : Int) (h0 : 0 <= k) (h1 : k + BA (l.flatMap Al) <= mB) : Hs Tryz.prog 26 (.own 44 l.length (l.flatMap Al)) k (.own 44 l.length (I1 mtx (l.flatMap Al) k)) (k + BA (l.flatMap Al)) :=
 Jm ER (r:=33) (ty:=28) (it:=3) (bt:=4) jN (by decide) rfl (Av ES l) (by decide) (JS l k h0 h1 rfl)
def EY (x : List Y43) (k : Int) : Option ((List Y43) × Int):=chk (0 <= k ∧ k + (T5 x : Int) <= mB) (some (dB x k,k + T5 x))
theorem JG {x : List Y43} {k : Int} (h0 : 0 <= k) (h1 : k + (T5 x : Int) <= mB) : EY x k = some (dB x k,k + T5 x):=Ap ⟨h0,h1⟩
theorem JH {x : List Y43} {k : Int} {r : (List Y43) × Int} (h : EY x k = some r) : Hs Tryz.prog 26 (oL 44 Al x) k (oL 44 Al r.1) r.2:=by
 obtain ⟨⟨h0,h1⟩,h⟩:=Aj h
 have hr:=Option.some.inj h
 subst hr
 have hx:=KD (f:=Al) (cnt:=QD) lg x
 have e:=GH x k h0 (by rw [hx]; exact h1)
 rw [NA (f:=Al) (cnt:=QD) (mk:=WH) oS lg,hx] at e
 show Hs Tryz.prog 26 _ k (.own 44 (mkL QD WH x k).length ((mkL QD WH x k).flatMap Al)) (k + (La QD x : Int))
 rw [Jo]
 exact e
theorem mi (x : Y29) : AX (Aw x) = true:=(dpc (dpo QE _) (dpc (dpo ZE _) (dpc (dpo S6 _) rfl)))
def Rz (x : Y29) : Nat:=SO x.1 + V9 x.2.1 + T5 x.2.2
def fp (x : Y29) (k : Int) : Y29:=(jZ x.1 (k),jU x.2.1 (k + ((SO x.1 : Nat) : Int)),dB x.2.2 (k + ((SO x.1 : Nat) : Int) + ((V9 x.2.1 : Nat) : Int)))
theorem pA (x : Y29) (k : Int) : mkA mtx (Aw x) k = Aw (fp x k):=by
 have h : mkA mtx [oL 123 Ak x.1,oL 54 Ag x.2.1,oL 44 Al x.2.2] k = _:=(jW mu gC _ (jW pz oR _ (jW oS lg _ (show mkA mtx [] _ = [] from rfl))))
 refine h.trans ?_
 simp only [Aw,fp,Rz,IW,Y9,V9,T5,SO,jT,jU,dB,jZ,Int.add_assoc,<- Int.natCast_add,Nat.add_assoc,Int.natCast_add]
theorem oT (x : Y29) : G4 (Aw x) = Rz x:=by
 have h : G4 [oL 123 Ak x.1,oL 54 Ag x.2.1,oL 44 Al x.2.2] = _:=(Xc gC _ (Xc oR _ (Xc lg _ (show G4 [] = 0 from rfl))))
 refine (show G4 (Aw x) = _ from h).trans ?_
 simp only [Rz,IW,Y9,V9,T5,SO,jT,jU,dB,jZ,Nat.add_assoc,Nat.add_zero,Nat.zero_add]
theorem MU (x : Y29) (k : Int) (h0 : 0 <= k) (h1 : k + G4 (Aw x) <= mB) : Hs Tryz.prog 24 (.agg (Aw x)) k (.agg (mkA mtx (Aw x) k)) (k + G4 (Aw x)):=by
 refine ⟨G9 jL,fun w0 St v bs hO hnd hbs => ?_⟩
 obtain ⟨us,rfl,hO⟩:=hO
 refine Nh (rs:=[]) (vs:=[.agg us.toArray,.int .i64 k]) jL (Nat.le_of_ble_eq_true rfl) ?_
 have hd : AX (Aw x) = true:=mi x
 have hI0:=Q1.start (mt:=mtx) (k:=k) (t:=30) hO hd hbs
 refine Ch (BX (Vt rfl (Oq (BW ?_))))
 have q0 : ((Aw x).drop 0).take 1 = IW x.1:=rfl
 obtain ⟨u0,l0,c0,d0⟩:=hI0.agg hd hnd hbs (Nat.le_of_ble_eq_true rfl) q0 (MT x.1 (k + (G4 ((Aw x).take 0) : Int)) (by omega) (Rw q0 h1))
 refine Ch (BX (HR ER rfl rfl rfl (Sd ER rfl l0 rfl c0 (AI (lD (k:=k) (n:=G4 ((Aw x).take 0)) rfl) (Ga (G9 du) (args2 rfl rfl) (d0.mono ?_))))))
 rintro e0 w1 ⟨rfl,hI1⟩
 refine ⟨_,rfl,EJ rfl (BW ?_)⟩
 have q1 : (Aw x)[1]? = some (oL 54 Ag x.2.1):=rfl
 obtain ⟨u1,c1,d1⟩:=hI1.own hd hnd hbs q1 (O0 x.2.1 (k + (G4 ((Aw x).take 1) : Int)) (by omega) (Rv q1 h1))
 refine Ch (BX (HR ER rfl rfl rfl (Ii ER rfl rfl rfl c1 (AI rfl (Ga (G9 jO) (args2 rfl rfl) (d1.mono ?_))))))
 rintro e1 w2 ⟨rfl,hI2⟩
 refine ⟨_,rfl,EJ rfl (BW ?_)⟩
 have q2 : (Aw x)[2]? = some (oL 44 Al x.2.2):=rfl
 obtain ⟨u2,c2,d2⟩:=hI2.own hd hnd hbs q2 (GH x.2.2 (k + (G4 ((Aw x).take 2) : Int)) (by omega) (Rv q2 h1))
 refine Ch (BX (HR ER rfl rfl rfl (Ii ER rfl rfl rfl c2 (AI rfl (Ga (G9 jN) (args2 rfl rfl) (d2.mono ?_))))))
 rintro e2 w3 ⟨rfl,hI3⟩
 refine ⟨_,rfl,EJ rfl (BW ?_)⟩
 obtain ⟨hx,hy⟩:=hI3.done (Nat.le_of_ble_eq_true rfl)
 refine Ch (BX (AI rfl (EJ rfl (BW ?_))))
 exact Tk ⟨.inl rfl,_,rfl,rfl,⟨us,rfl,hx⟩,hy⟩
def GX (x : Y29) (k : Int) : Option (Y29 × Int):=chk (0 <= k ∧ k + (Rz x : Int) <= mB) (some (fp x k,k + Rz x))
theorem JI {x : Y29} {k : Int} (h0 : 0 <= k) (h1 : k + (Rz x : Int) <= mB) : GX x k = some (fp x k,k + Rz x):=Ap ⟨h0,h1⟩
theorem JJ {x : Y29} {k : Int} {r : Y29 × Int} (h : GX x k = some r) : Hs Tryz.prog 24 (.agg (Aw x)) k (.agg (Aw r.1)) r.2:=by
 obtain ⟨⟨h0,h1⟩,h⟩:=Aj h
 have hr:=Option.some.inj h
 subst hr
 have e:=MU x k h0 (by rw [oT]; exact h1)
 rw [pA,oT] at e
 exact e
def cJ (x : Y32) : Nat:=LH x.2
def lj (x : Y32) (k : Int) : Y32:=(x.1,R9 x.2 (k))
theorem JQ (x : Y32) (k : Int) (h0 : 0 <= k) (h1 : k + G4 (Ez x) <= mB) : Hs Tryz.prog 70 (.agg (Ez x)) k (.agg (mkA mtx (Ez x) k)) (k + G4 (Ez x)):=by
 refine ⟨G9 Z6,fun w0 St v bs hO hnd hbs => ?_⟩
 obtain ⟨us,rfl,hO⟩:=hO
 refine Nh (rs:=[]) (vs:=[.agg us.toArray,.int .i64 k]) Z6 (Nat.le_of_ble_eq_true rfl) ?_
 have hd : AX (Ez x) = true:=pw x
 have hI0:=Q1.start (mt:=mtx) (k:=k) (t:=33) hO hd hbs
 refine Ch (BX (Vt rfl (Oq (BW ?_))))
 have hI1:=hI0.skip (c:=nI x.1) rfl (fun _ => rfl)
 have q1 : (Ez x)[1]? = some (oL 42 Ah x.2):=rfl
 obtain ⟨u1,c1,d1⟩:=hI1.own hd hnd hbs q1 (Hi x.2 (k + (G4 ((Ez x).take 1) : Int)) (by omega) (Rv q1 h1))
 refine Ch (BX (HR ER rfl rfl rfl (Ii ER rfl rfl rfl c1 (AI (lD (k:=k) (n:=G4 ((Ez x).take 1)) rfl) (Ga (G9 XR) (args2 rfl rfl) (d1.mono ?_))))))
 rintro e1 w1 ⟨rfl,hI2⟩
 refine ⟨_,rfl,EJ rfl (BW ?_)⟩
 obtain ⟨hx,hy⟩:=hI2.done (Nat.le_of_ble_eq_true rfl)
 refine Ch (BX (AI rfl (EJ rfl (BW ?_))))
 exact Tk ⟨.inl rfl,_,rfl,rfl,⟨us,rfl,hx⟩,hy⟩
theorem oQ (x : Y34) : AX (C3 x) = true:=(dpc rfl (dpc rfl (dpc (dpo ZD _) (dpc rfl (dpc (dpo ZD _) rfl)))))
def Za (x : Y34) : Nat:=cJ x.2.1 + cJ x.2.2
def lm (x : Y34) (k : Int) : Y34:=(x.1,lj x.2.1 (k),lj x.2.2 (k + ((cJ x.2.1 : Nat) : Int)))
theorem pB (x : Y34) (k : Int) : mkA mtx (C3 x) k = C3 (lm x k):=by
 have h : mkA mtx [.str x.1,nI x.2.1.1,oL 42 Ah x.2.1.2,nI x.2.2.1,oL 42 Ah x.2.2.2] k = _:=(mka (fun _ _ => rfl) (mka (fun _ _ => rfl) (jW gE Wj _ (mka (fun _ _ => rfl) (jW gE Wj _ (show mkA mtx [] _ = [] from rfl))))))
 refine h.trans ?_
 simp only [C3,lm,Za,Ez,LH,cJ,R9,lj,Int.add_assoc,<- Int.natCast_add,Nat.add_assoc,Int.natCast_add]
theorem oU (x : Y34) : G4 (C3 x) = Za x:=by
 have h : G4 [.str x.1,nI x.2.1.1,oL 42 Ah x.2.1.2,nI x.2.2.1,oL 42 Ah x.2.2.2] = _:=(mh (fun _ => rfl) (mh (fun _ => rfl) (Xc Wj _ (mh (fun _ => rfl) (Xc Wj _ (show G4 [] = 0 from rfl))))))
 refine (show G4 (C3 x) = _ from h).trans ?_
 simp only [Za,Ez,LH,cJ,R9,lj,Nat.add_assoc,Nat.add_zero,Nat.zero_add]
theorem OZ (x : Y34) (k : Int) (h0 : 0 <= k) (h1 : k + G4 (C3 x) <= mB) : Hs Tryz.prog 25 (.agg (C3 x)) k (.agg (mkA mtx (C3 x) k)) (k + G4 (C3 x)):=by
 refine ⟨G9 jM,fun w0 St v bs hO hnd hbs => ?_⟩
 obtain ⟨us,rfl,hO⟩:=hO
 refine Nh (rs:=[]) (vs:=[.agg us.toArray,.int .i64 k]) jM (Nat.le_of_ble_eq_true rfl) ?_
 have hd : AX (C3 x) = true:=oQ x
 have hI0:=Q1.start (mt:=mtx) (k:=k) (t:=35) hO hd hbs
 refine Ch (BX (Vt rfl (Oq (BW ?_))))
 have hI1:=hI0.skip (c:=.str x.1) rfl (fun _ => rfl)
 have q1 : ((C3 x).drop 1).take 2 = Ez x.2.1:=rfl
 obtain ⟨u1,l1,c1,d1⟩:=hI1.agg hd hnd hbs (Nat.le_of_ble_eq_true rfl) q1 (JQ x.2.1 (k + (G4 ((C3 x).take 1) : Int)) (by omega) (Rw q1 h1))
 refine Ch (BX (HR ER rfl rfl rfl (Sd ER rfl l1 rfl c1 (AI (lD (k:=k) (n:=G4 ((C3 x).take 1)) rfl) (Ga (G9 Z6) (args2 rfl rfl) (d1.mono ?_))))))
 rintro e1 w1 ⟨rfl,hI3⟩
 refine ⟨_,rfl,EJ rfl (BW ?_)⟩
 have q3 : ((C3 x).drop 3).take 2 = Ez x.2.2:=rfl
 obtain ⟨u3,l3,c3,d3⟩:=hI3.agg hd hnd hbs (Nat.le_of_ble_eq_true rfl) q3 (JQ x.2.2 (k + (G4 ((C3 x).take 3) : Int)) (by omega) (Rw q3 h1))
 refine Ch (BX (HR ER rfl rfl rfl (Sd ER rfl l3 rfl c3 (AI rfl (Ga (G9 Z6) (args2 rfl rfl) (d3.mono ?_))))))
 rintro e3 w2 ⟨rfl,hI5⟩
 refine ⟨_,rfl,EJ rfl (BW ?_)⟩
 obtain ⟨hx,hy⟩:=hI5.done (Nat.le_of_ble_eq_true rfl)
 refine Ch (BX (AI rfl (EJ rfl (BW ?_))))
 exact Tk ⟨.inl rfl,_,rfl,rfl,⟨us,rfl,hx⟩,hy⟩
def Ks (x : Y34) (k : Int) : Option (Y34 × Int):=chk (0 <= k ∧ k + (Za x : Int) <= mB) (some (lm x k,k + Za x))
theorem OW {x : Y34} {k : Int} (h0 : 0 <= k) (h1 : k + (Za x : Int) <= mB) : Ks x k = some (lm x k,k + Za x):=Ap ⟨h0,h1⟩
theorem OX {x : Y34} {k : Int} {r : Y34 × Int} (h : Ks x k = some r) : Hs Tryz.prog 25 (.agg (C3 x)) k (.agg (C3 r.1)) r.2:=by
 obtain ⟨⟨h0,h1⟩,h⟩:=Aj h
 have hr:=Option.some.inj h
 subst hr
 have e:=OZ x k h0 (by rw [oU]; exact h1)
 rw [pB,oU] at e
 exact e
end Go.Proofs.YtpcbnmcfplioeaaGreat
