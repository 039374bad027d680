/-
  What the functions that mark do: contracts and typed functions, printed by genmark.py. No conditions.
-/
import Derived.Test.YtceghmdneadhbaaGreatMxAW1
namespace Go.Proofs.YtceghmdneadhbaaGreat
open Go.RowKit
set_option linter.unusedVariables false
set_option linter.unusedSimpArgs false
set_option maxRecDepth 100000
def c53_d (x : List Int) : List V := [dL ci64 x]
theorem zc53_d (x : List Int) : (c53_d x).length = 1 := rfl
theorem ec53_d (x : List Int) : erL (c53_d x) = c53_d x := (erc (erD eci64 _) rfl)
def c53_o (x : List Int) : List V := [oL 3 ci64 x]
theorem zc53_o (x : List Int) : (c53_o x).length = 1 := rfl
theorem ec53_o (x : List Int) : erL (c53_o x) = c53_d x := (erc (erO eci64 _) rfl)
def c41_dd (x : List (List Int)) : List V := [dL c53_d x]
abbrev Y42 := Int × (List (List Int))
def c43_dd (x : Y42) : List V := [nI x.1, dL c53_d x.2]
def c43_oo (x : Y42) : List V := [nI x.1, oL 53 c53_o x.2]
abbrev Y119 := (List UInt8) × Y42
def c120_dd (x : Y119) : List V := [.str x.1, nI x.2.1, dL c53_d x.2.2]
theorem zc120_dd (x : Y119) : (c120_dd x).length = 3 := rfl
theorem ec120_dd (x : Y119) : erL (c120_dd x) = c120_dd x := (erc rfl (erc rfl (erc (erD ec53_d _) rfl)))
def c120_oo (x : Y119) : List V := [.str x.1, nI x.2.1, oL 53 c53_o x.2.2]
theorem zc120_oo (x : Y119) : (c120_oo x).length = 3 := rfl
theorem ec120_oo (x : Y119) : erL (c120_oo x) = c120_dd x := (erc rfl (erc rfl (erc (erO ec53_o _) rfl)))
def c33_ooo (x : List Y119) : List V := [oL 120 c120_oo x]
abbrev Y147 := (List UInt8) × (List Int)
def c148_d (x : Y147) : List V := [.str x.1, dL ci64 x.2]
theorem zc148_d (x : Y147) : (c148_d x).length = 2 := rfl
theorem ec148_d (x : Y147) : erL (c148_d x) = c148_d x := (erc rfl (erc (erD eci64 _) rfl))
def c148_o (x : Y147) : List V := [.str x.1, oL 3 ci64 x.2]
theorem zc148_o (x : Y147) : (c148_o x).length = 2 := rfl
theorem ec148_o (x : Y147) : erL (c148_o x) = c148_d x := (erc rfl (erc (erO eci64 _) rfl))
abbrev Y54 := Int × (List Y147) × (List Int)
def c55_ddd (x : Y54) : List V := [nI x.1, dL c148_d x.2.1, dL ci64 x.2.2]
def c55_ooo (x : Y54) : List V := [nI x.1, oL 148 c148_o x.2.1, oL 3 ci64 x.2.2]
abbrev Y75 := Int × (List (List Int)) × (List Int)
def c76_ddd (x : Y75) : List V := [nI x.1, dL c53_d x.2.1, dL ci64 x.2.2]
theorem zc76_ddd (x : Y75) : (c76_ddd x).length = 3 := rfl
theorem ec76_ddd (x : Y75) : erL (c76_ddd x) = c76_ddd x := (erc rfl (erc (erD ec53_d _) (erc (erD eci64 _) rfl)))
def c76_ooo (x : Y75) : List V := [nI x.1, oL 53 c53_o x.2.1, oL 3 ci64 x.2.2]
theorem zc76_ooo (x : Y75) : (c76_ooo x).length = 3 := rfl
theorem ec76_ooo (x : Y75) : erL (c76_ooo x) = c76_ddd x := (erc rfl (erc (erO ec53_o _) (erc (erO eci64 _) rfl)))
abbrev Y77 := Y54 × Y75
def c78_dddddd (x : Y77) : List V := [nI x.1.1, dL c148_d x.1.2.1, dL ci64 x.1.2.2, nI x.2.1, dL c53_d x.2.2.1, dL ci64 x.2.2.2]
theorem zc78_dddddd (x : Y77) : (c78_dddddd x).length = 6 := rfl
theorem ec78_dddddd (x : Y77) : erL (c78_dddddd x) = c78_dddddd x := (erc rfl (erc (erD ec148_d _) (erc (erD eci64 _) (erc rfl (erc (erD ec53_d _) (erc (erD eci64 _) rfl))))))
def c78_oooooo (x : Y77) : List V := [nI x.1.1, oL 148 c148_o x.1.2.1, oL 3 ci64 x.1.2.2, nI x.2.1, oL 53 c53_o x.2.2.1, oL 3 ci64 x.2.2.2]
theorem zc78_oooooo (x : Y77) : (c78_oooooo x).length = 6 := rfl
theorem ec78_oooooo (x : Y77) : erL (c78_oooooo x) = c78_dddddd x := (erc rfl (erc (erO ec148_o _) (erc (erO eci64 _) (erc rfl (erc (erO ec53_o _) (erc (erO eci64 _) rfl))))))
abbrev Y36 := (List Y119) × (List Y77) × (List Y75)
def c37_dddddddddddddd (x : Y36) : List V := [dL c120_dd x.1, dL c78_dddddd x.2.1, dL c76_ddd x.2.2]
def c37_oooooooooooooo (x : Y36) : List V := [oL 120 c120_oo x.1, oL 78 c78_oooooo x.2.1, oL 76 c76_ooo x.2.2]
def ce53 (x : List Int) : Nat := cntL oneI x
def me53 (x : List Int) (k : Int) : List Int := mkL oneI markI x k
theorem hm53 (x : List Int) (k : Int) : mkVs mtx (c53_o x) k = c53_o (me53 x k) := by
  unfold c53_o me53
  exact mkc (mk_own hmI hcI x k) (cnt_own hcI x) rfl
theorem hc53 (x : List Int) : cntVs (c53_o x) = ce53 x := by
  unfold c53_o ce53
  exact cntc (cnt_own hcI x) rfl
theorem dp53 (x : List Int) : deepL (c53_o x) = true := dpc (dpo (fun _ => rfl) x) rfl
theorem r_laws_markIntS (l : List Int) (k : Int) (h0 : 0 ≤ k) (h1 : k + cntVs (l.flatMap ci64) ≤ mB) {body : LC} (hb : body = (.seq (.rgn [] [LL 12 (.move (.tmp 0)) 53,
      LL 13 (.move (.tmp 5)) 3,
      LL 14 (.move (.tmp 1)) 3,
      LL 15 (.indexAddr 53 (.tmp 12) (.tmp 13)) 0,
      ⟨none, (.store 3 (.tmp 15) (.tmp 14)), 0, none⟩])
    (.rgn [] [LL 16 (.move (.tmp 1)) 3,
      LL 17 (.binOp .add 3 (.tmp 16) (.const (.int .i64 1)) 3) 3,
      LL 1 (.assign (.tmp 17)) 3]))) : Round Tryz.prog 19 [] mtx 3 1 body l.length (l.flatMap ci64) k := by
  subst hb
  intro St w0 bs g cap j w T hnd hbs hj hI0 t0 t1 t5
  have hd : deepL (l.flatMap ci64) = true := deep_flat (fun _ => rfl) l
  have hI0 : Inv Tryz.prog St mtx 3 l.length (l.flatMap ci64) k (.slice (some ⟨g, 0, none⟩) l.length cap) bs w0 (j * 1 + 0) w := hI0
  have t1 : T 1 = some (.int .i64 (k + (cntP (l.flatMap ci64) (j * 1 + 0) : Int))) := t1
  have q0 : (l.flatMap ci64)[j * 1 + 0]? = some (nI (l[j])) := (flat_at zci64 hj (by decide)).trans rfl
  have b0 := cnt_bd q0 h1
  rw [show cntV (nI (l[j])) = 1 from rfl] at b0
  have x0 : k + (cntP (l.flatMap ci64) (j * 1 + 0) : Int) + 1 = k + (cntP (l.flatMap ci64) (j * 1 + 1) : Int) := cnt_s1 (k := k) q0 rfl
  have n0 : 0 ≤ k + (cntP (l.flatMap ci64) (j * 1 + 0) : Int) := cnt_nn h0
  obtain ⟨u0, c0, f0, hI1⟩ := hI0.int' hd hnd q0
  refine ms_seq (ms_rgn (mo_move t0 (mo_move t5 (mo_move t1 (mo_ia tbOk rfl rfl rfl hj (mo_store tbOk rfl rfl rfl rfl c0 f0 rfl (mo_nil ?_)))))))
  generalize hw1 : World.setCell _ _ _ = w1 at hI1 ⊢
  refine ms_rgn (mo_move t1 (mo_add rfl (by omega) (by unfold mB at b0; omega) (mo_asg rfl (mo_nil ?_))))
  rw [x0]
  exact ⟨rfl, t0, rfl, t5, hI1⟩
theorem m_laws_markIntS (l : List Int) (k : Int) (h0 : 0 ≤ k) (h1 : k + cntVs (l.flatMap ci64) ≤ mB) : MarkAt Tryz.prog 82 (.own 3 l.length (l.flatMap ci64)) k (.own 3 l.length (mkVs mtx (l.flatMap ci64) k)) (k + cntVs (l.flatMap ci64)) :=
  mark_slice tbOk (r := 18) (ty := 53) (it := 3) (bt := 4) lit82 (by decide) rfl (flat_len zci64 l) (by decide) (r_laws_markIntS l k h0 h1 rfl)
def ce41 (x : List (List Int)) : Nat := cntL ce53 x
def me41 (x : List (List Int)) (k : Int) : List (List Int) := mkL ce53 me53 x k
theorem r_laws_markIntSS (l : List (List Int)) (k : Int) (h0 : 0 ≤ k) (h1 : k + cntVs (l.flatMap c53_o) ≤ mB) {body : LC} (hb : body = (.rgn [] [LL 12 (.move (.tmp 0)) 41,
      LL 13 (.move (.tmp 5)) 3,
      LL 14 (.indexAddr 41 (.tmp 12) (.tmp 13)) 0,
      LL 15 (.load 53 (.tmp 14)) 53,
      LL 16 (.move (.tmp 1)) 3,
      LL 17 (.call { callee := (.value (.func 82)), args := #[(.tmp 15), (.tmp 16)], argTypes := #[53, 3] }) 3,
      LL 1 (.assign (.tmp 17)) 3])) : Round Tryz.prog 19 [] mtx 53 1 body l.length (l.flatMap c53_o) k := by
  subst hb
  intro St w0 bs g cap j w T hnd hbs hj hI0 t0 t1 t5
  have hd : deepL (l.flatMap c53_o) = true := deep_flat dp53 l
  have hI0 : Inv Tryz.prog St mtx 53 l.length (l.flatMap c53_o) k (.slice (some ⟨g, 0, none⟩) l.length cap) bs w0 (j * 1 + 0) w := hI0
  have t1 : T 1 = some (.int .i64 (k + (cntP (l.flatMap c53_o) (j * 1 + 0) : Int))) := t1
  have q0 : (l.flatMap c53_o)[j * 1 + 0]? = some (oL 3 ci64 (l[j])) := (flat_at zc53_o hj (by decide)).trans rfl
  have b0 := cnt_bd q0 h1
  have n0 : 0 ≤ k + (cntP (l.flatMap c53_o) (j * 1 + 0) : Int) := cnt_nn h0
  have k0 := m_laws_markIntS (l[j]) (k + (cntP (l.flatMap c53_o) (j * 1 + 0) : Int)) n0 b0
  obtain ⟨u0, c0, d0⟩ := hI0.own' hd hnd hbs q0 k0
  have d0 : Calls Tryz.prog 82 #[u0, .int .i64 (k + (cntP (l.flatMap c53_o) (j * 1 + 0) : Int))] w (fun e' w' => e' = .returned (.int .i64 (k + (cntP (l.flatMap c53_o) (j * 1 + 1) : Int))) ∧ Inv Tryz.prog St mtx 53 l.length (l.flatMap c53_o) k (.slice (some ⟨g, 0, none⟩) l.length cap) bs w0 (j * 1 + 1) w') := d0
  refine ms_rgn (mo_move t0 (mo_move t5 (mo_ia tbOk rfl rfl rfl hj (mo_load tbOk rfl rfl rfl c0 (mo_move t1 (mo_call (lit_hb lit82) (args2 rfl rfl) (d0.mono ?_)))))))
  rintro e0 w1 ⟨rfl, hI1⟩
  refine ⟨_, rfl, mo_asg rfl (mo_nil ?_)⟩
  exact ⟨rfl, t0, rfl, t5, hI1⟩
theorem m_laws_markIntSS (l : List (List Int)) (k : Int) (h0 : 0 ≤ k) (h1 : k + cntVs (l.flatMap c53_o) ≤ mB) : MarkAt Tryz.prog 55 (.own 53 l.length (l.flatMap c53_o)) k (.own 53 l.length (mkVs mtx (l.flatMap c53_o) k)) (k + cntVs (l.flatMap c53_o)) :=
  mark_slice tbOk (r := 18) (ty := 41) (it := 3) (bt := 4) lit55 (by decide) rfl (flat_len zc53_o l) (by decide) (r_laws_markIntSS l k h0 h1 rfl)
def ce43 (x : Y42) : Nat := (1) + (ce41 x.2)
def me43 (x : Y42) (k : Int) : Y42 := ((k), me41 x.2 (k + ((1 : Nat) : Int)))
def ce120 (x : Y119) : Nat := (1) + (ce43 x.2)
def me120 (x : Y119) (k : Int) : Y119 := (mtx (k), me43 x.2 (k + ((1 : Nat) : Int)))
theorem hm120 (x : Y119) (k : Int) : mkVs mtx (c120_oo x) k = c120_oo (me120 x k) := by
  have h : mkVs mtx [.str x.1, nI x.2.1, oL 53 c53_o x.2.2] k = _ := (mkc (n := 1) (c' := V.str _) rfl rfl (mkc (n := 1) (c' := V.int .i64 _) rfl rfl (mkc (mk_own hm53 hc53 _ _) (cnt_own hc53 _) (show mkVs mtx [] _ = [] from rfl))))
  refine h.trans ?_
  simp only [c120_oo, me120, ce120, c43_oo, ce41, ce43, me41, me43, Int.add_assoc, ← Int.natCast_add, Nat.add_assoc, Int.natCast_add]
theorem hc120 (x : Y119) : cntVs (c120_oo x) = ce120 x := by
  have h : cntVs [.str x.1, nI x.2.1, oL 53 c53_o x.2.2] = _ := (cntc (n := 1) rfl (cntc (n := 1) rfl (cntc (cnt_own hc53 _) (show cntVs [] = 0 from rfl))))
  refine (show cntVs (c120_oo x) = _ from h).trans ?_
  simp only [ce120, c43_oo, ce41, ce43, me41, me43, Nat.add_assoc, Nat.add_zero]
theorem dp120 (x : Y119) : deepL (c120_oo x) = true := (dpc rfl (dpc rfl (dpc (dpo dp53 _) rfl)))
def ce31 (x : List Y119) : Nat := cntL ce120 x
def me31 (x : List Y119) (k : Int) : List Y119 := mkL ce120 me120 x k
theorem r_laws_markTableS (l : List Y119) (k : Int) (h0 : 0 ≤ k) (h1 : k + cntVs (l.flatMap c120_oo) ≤ mB) {body : LC} (hb : body = (.seq (.rgn [] [LL 12 (.move (.tmp 0)) 31,
      LL 13 (.move (.tmp 5)) 3,
      LL 14 (.move (.tmp 1)) 3,
      LL 15 (.call { callee := (.value (.func 137)), args := #[(.tmp 14)], argTypes := #[3] }) 9,
      LL 16 (.indexAddr 31 (.tmp 12) (.tmp 13)) 0,
      LL 17 (.fieldAddr 120 (.tmp 16) 0) 0,
      ⟨none, (.store 9 (.tmp 17) (.tmp 15)), 0, none⟩])
    (.seq (.rgn [] [LL 18 (.move (.tmp 1)) 3,
      LL 19 (.binOp .add 3 (.tmp 18) (.const (.int .i64 1)) 3) 3,
      LL 1 (.assign (.tmp 19)) 3])
    (.seq (.rgn [] [LL 20 (.move (.tmp 0)) 31,
      LL 21 (.move (.tmp 5)) 3,
      LL 22 (.move (.tmp 1)) 3,
      LL 23 (.indexAddr 31 (.tmp 20) (.tmp 21)) 0,
      LL 24 (.fieldAddr 120 (.tmp 23) 1) 0,
      LL 25 (.fieldAddr 43 (.tmp 24) 0) 0,
      ⟨none, (.store 3 (.tmp 25) (.tmp 22)), 0, none⟩])
    (.seq (.rgn [] [LL 26 (.move (.tmp 1)) 3,
      LL 27 (.binOp .add 3 (.tmp 26) (.const (.int .i64 1)) 3) 3,
      LL 1 (.assign (.tmp 27)) 3])
    (.rgn [] [LL 28 (.move (.tmp 0)) 31,
      LL 29 (.move (.tmp 5)) 3,
      LL 30 (.indexAddr 31 (.tmp 28) (.tmp 29)) 0,
      LL 31 (.fieldAddr 120 (.tmp 30) 1) 0,
      LL 32 (.fieldAddr 43 (.tmp 31) 1) 0,
      LL 33 (.load 41 (.tmp 32)) 41,
      LL 34 (.move (.tmp 1)) 3,
      LL 35 (.call { callee := (.value (.func 55)), args := #[(.tmp 33), (.tmp 34)], argTypes := #[41, 3] }) 3,
      LL 1 (.assign (.tmp 35)) 3])))))) : Round Tryz.prog 37 [] mtx 120 3 body l.length (l.flatMap c120_oo) k := by
  subst hb
  intro St w0 bs g cap j w T hnd hbs hj hI0 t0 t1 t5
  have hd : deepL (l.flatMap c120_oo) = true := deep_flat dp120 l
  have hI0 : Inv Tryz.prog St mtx 120 l.length (l.flatMap c120_oo) k (.slice (some ⟨g, 0, none⟩) l.length cap) bs w0 (j * 3 + 0) w := hI0
  have t1 : T 1 = some (.int .i64 (k + (cntP (l.flatMap c120_oo) (j * 3 + 0) : Int))) := t1
  have q0 : (l.flatMap c120_oo)[j * 3 + 0]? = some (.str ((l[j]).1)) := (flat_at zc120_oo hj (by decide)).trans rfl
  have b0 := cnt_bd q0 h1
  rw [show cntV (.str ((l[j]).1)) = 1 from rfl] at b0
  have x0 : k + (cntP (l.flatMap c120_oo) (j * 3 + 0) : Int) + 1 = k + (cntP (l.flatMap c120_oo) (j * 3 + 1) : Int) := cnt_s1 (k := k) q0 rfl
  have n0 : 0 ≤ k + (cntP (l.flatMap c120_oo) (j * 3 + 0) : Int) := cnt_nn h0
  have q1 : (l.flatMap c120_oo)[j * 3 + 1]? = some (nI (((l[j]).2).1)) := (flat_at zc120_oo hj (by decide)).trans rfl
  have b1 := cnt_bd q1 h1
  rw [show cntV (nI (((l[j]).2).1)) = 1 from rfl] at b1
  have x1 : k + (cntP (l.flatMap c120_oo) (j * 3 + 1) : Int) + 1 = k + (cntP (l.flatMap c120_oo) (j * 3 + 2) : Int) := cnt_s1 (k := k) q1 rfl
  have n1 : 0 ≤ k + (cntP (l.flatMap c120_oo) (j * 3 + 1) : Int) := cnt_nn h0
  have q2 : (l.flatMap c120_oo)[j * 3 + 2]? = some (oL 53 c53_o (((l[j]).2).2)) := (flat_at zc120_oo hj (by decide)).trans rfl
  have b2 := cnt_bd q2 h1
  have n2 : 0 ≤ k + (cntP (l.flatMap c120_oo) (j * 3 + 2) : Int) := cnt_nn h0
  refine ms_seq (ms_rgn (mo_move t0 (mo_move t5 (mo_move t1 (mo_call mtx_hb (args1 rfl) ((mtx_calls n0 (by omega) w).mono ?_))))))
  rintro e0 w1 ⟨rfl, z0⟩
  have hI0 := hI0.grow hd hbs z0
  obtain ⟨u0, c0, f0, hI1⟩ := hI0.str' hd hnd q0 (mtx_len n0 (by omega))
  refine ⟨_, rfl, mo_ia tbOk rfl rfl rfl hj (mo_fa tbOk rfl rfl rfl (mo_store tbOk rfl rfl rfl rfl c0 f0 rfl (mo_nil ?_)))⟩
  generalize hw2 : World.setCell _ _ _ = w2 at hI1 ⊢
  refine ms_seq (ms_rgn (mo_move t1 (mo_add rfl (by omega) (by unfold mB at b0; omega) (mo_asg rfl (mo_nil ?_)))))
  rw [x0]
  obtain ⟨u1, c1, f1, hI2⟩ := hI1.int' hd hnd q1
  refine ms_seq (ms_rgn (mo_move t0 (mo_move t5 (mo_move rfl (mo_ia tbOk rfl rfl rfl hj (mo_fa tbOk rfl rfl rfl (mo_fa tbOk rfl rfl rfl (mo_store tbOk rfl rfl rfl rfl c1 f1 rfl (mo_nil ?_)))))))))
  generalize hw3 : World.setCell _ _ _ = w3 at hI2 ⊢
  refine ms_seq (ms_rgn (mo_move rfl (mo_add rfl (by omega) (by unfold mB at b1; omega) (mo_asg rfl (mo_nil ?_)))))
  rw [x1]
  have k2 := m_laws_markIntSS (((l[j]).2).2) (k + (cntP (l.flatMap c120_oo) (j * 3 + 2) : Int)) n2 b2
  obtain ⟨u2, c2, d2⟩ := hI2.own' hd hnd hbs q2 k2
  have d2 : Calls Tryz.prog 55 #[u2, .int .i64 (k + (cntP (l.flatMap c120_oo) (j * 3 + 2) : Int))] w3 (fun e' w' => e' = .returned (.int .i64 (k + (cntP (l.flatMap c120_oo) (j * 3 + 3) : Int))) ∧ Inv Tryz.prog St mtx 120 l.length (l.flatMap c120_oo) k (.slice (some ⟨g, 0, none⟩) l.length cap) bs w0 (j * 3 + 3) w') := d2
  refine ms_rgn (mo_move t0 (mo_move t5 (mo_ia tbOk rfl rfl rfl hj (mo_fa tbOk rfl rfl rfl (mo_fa tbOk rfl rfl rfl (mo_load tbOk rfl rfl rfl c2 (mo_move rfl (mo_call (lit_hb lit55) (args2 rfl rfl) (d2.mono ?_)))))))))
  rintro e2 w4 ⟨rfl, hI3⟩
  refine ⟨_, rfl, mo_asg rfl (mo_nil ?_)⟩
  exact ⟨rfl, t0, rfl, t5, hI3⟩
theorem m_laws_markTableS (l : List Y119) (k : Int) (h0 : 0 ≤ k) (h1 : k + cntVs (l.flatMap c120_oo) ≤ mB) : MarkAt Tryz.prog 104 (.own 120 l.length (l.flatMap c120_oo)) k (.own 120 l.length (mkVs mtx (l.flatMap c120_oo) k)) (k + cntVs (l.flatMap c120_oo)) :=
  mark_slice tbOk (r := 36) (ty := 31) (it := 3) (bt := 4) lit104 (by decide) rfl (flat_len zc120_oo l) (by decide) (r_laws_markTableS l k h0 h1 rfl)
theorem dp33 (x : List Y119) : deepL (c33_ooo x) = true := (dpc (dpo dp120 _) rfl)
def cs33 (x : List Y119) : Nat := ce31 x
def ms33 (x : List Y119) (k : Int) : List Y119 := me31 x (k)
theorem m_laws_markDatabase (x : List Y119) (k : Int) (h0 : 0 ≤ k) (h1 : k + cntA (c33_ooo x) ≤ mB) : MarkAt Tryz.prog 52 (.agg (c33_ooo x)) k (.agg (mkA mtx (c33_ooo x) k)) (k + cntA (c33_ooo x)) := by
  refine ⟨lit_hb lit52, fun w0 St v bs hO hnd hbs => ?_⟩
  obtain ⟨us, rfl, hO⟩ := hO
  refine calls_ms (rs := []) (vs := [.agg us.toArray, .int .i64 k]) lit52 (Nat.le_of_ble_eq_true rfl) ?_
  have hd : deepL (c33_ooo x) = true := dp33 x
  have hI0 := InvA.start (mt := mtx) (k := k) (t := 33) hO hd hbs
  refine ms_seq (ms_rgn (mo_box rfl (mo_asgc (mo_nil ?_))))
  have q0 : (c33_ooo x)[0]? = some (oL 120 c120_oo x) := rfl
  obtain ⟨u0, c0, d0⟩ := hI0.own hd hnd hbs q0 (m_laws_markTableS x (k + (cntA ((c33_ooo x).take 0) : Int)) (by omega) (cntA_bd q0 h1))
  refine ms_seq (ms_rgn (mo_fa tbOk rfl rfl rfl (mo_load tbOk rfl rfl rfl c0 (mo_move (t1_0 (k := k) (n := cntA ((c33_ooo x).take 0)) rfl) (mo_call (lit_hb lit104) (args2 rfl rfl) (d0.mono ?_))))))
  rintro e0 w1 ⟨rfl, hI1⟩
  refine ⟨_, rfl, mo_asg rfl (mo_nil ?_)⟩
  obtain ⟨hx, hy⟩ := hI1.done (Nat.le_of_ble_eq_true rfl)
  refine ms_seq (ms_rgn (mo_move rfl (mo_asg rfl (mo_nil ?_))))
  exact ms_ret ⟨.inl rfl, _, rfl, rfl, ⟨us, rfl, hx⟩, hy⟩
def ce148 (x : Y147) : Nat := (1) + (ce53 x.2)
def me148 (x : Y147) (k : Int) : Y147 := (mtx (k), me53 x.2 (k + ((1 : Nat) : Int)))
theorem hm148 (x : Y147) (k : Int) : mkVs mtx (c148_o x) k = c148_o (me148 x k) := by
  have h : mkVs mtx [.str x.1, oL 3 ci64 x.2] k = _ := (mkc (n := 1) (c' := V.str _) rfl rfl (mkc (mk_own hmI hcI _ _) (cnt_own hcI _) (show mkVs mtx [] _ = [] from rfl)))
  refine h.trans ?_
  simp only [c148_o, me148, ce148, ce53, me53, Int.add_assoc, ← Int.natCast_add, Nat.add_assoc, Int.natCast_add]
theorem hc148 (x : Y147) : cntVs (c148_o x) = ce148 x := by
  have h : cntVs [.str x.1, oL 3 ci64 x.2] = _ := (cntc (n := 1) rfl (cntc (cnt_own hcI _) (show cntVs [] = 0 from rfl)))
  refine (show cntVs (c148_o x) = _ from h).trans ?_
  simp only [ce148, ce53, me53, Nat.add_assoc, Nat.add_zero]
theorem dp148 (x : Y147) : deepL (c148_o x) = true := (dpc rfl (dpc (dpo (fun _ => rfl) _) rfl))
def ce52 (x : List Y147) : Nat := cntL ce148 x
def me52 (x : List Y147) (k : Int) : List Y147 := mkL ce148 me148 x k
theorem r_laws_markAtomS (l : List Y147) (k : Int) (h0 : 0 ≤ k) (h1 : k + cntVs (l.flatMap c148_o) ≤ mB) {body : LC} (hb : body = (.seq (.rgn [] [LL 12 (.move (.tmp 0)) 52,
      LL 13 (.move (.tmp 5)) 3,
      LL 14 (.move (.tmp 1)) 3,
      LL 15 (.call { callee := (.value (.func 137)), args := #[(.tmp 14)], argTypes := #[3] }) 9,
      LL 16 (.indexAddr 52 (.tmp 12) (.tmp 13)) 0,
      LL 17 (.fieldAddr 148 (.tmp 16) 0) 0,
      ⟨none, (.store 9 (.tmp 17) (.tmp 15)), 0, none⟩])
    (.seq (.rgn [] [LL 18 (.move (.tmp 1)) 3,
      LL 19 (.binOp .add 3 (.tmp 18) (.const (.int .i64 1)) 3) 3,
      LL 1 (.assign (.tmp 19)) 3])
    (.rgn [] [LL 20 (.move (.tmp 0)) 52,
      LL 21 (.move (.tmp 5)) 3,
      LL 22 (.indexAddr 52 (.tmp 20) (.tmp 21)) 0,
      LL 23 (.fieldAddr 148 (.tmp 22) 1) 0,
      LL 24 (.load 53 (.tmp 23)) 53,
      LL 25 (.move (.tmp 1)) 3,
      LL 26 (.call { callee := (.value (.func 82)), args := #[(.tmp 24), (.tmp 25)], argTypes := #[53, 3] }) 3,
      LL 1 (.assign (.tmp 26)) 3])))) : Round Tryz.prog 28 [] mtx 148 2 body l.length (l.flatMap c148_o) k := by
  subst hb
  intro St w0 bs g cap j w T hnd hbs hj hI0 t0 t1 t5
  have hd : deepL (l.flatMap c148_o) = true := deep_flat dp148 l
  have hI0 : Inv Tryz.prog St mtx 148 l.length (l.flatMap c148_o) k (.slice (some ⟨g, 0, none⟩) l.length cap) bs w0 (j * 2 + 0) w := hI0
  have t1 : T 1 = some (.int .i64 (k + (cntP (l.flatMap c148_o) (j * 2 + 0) : Int))) := t1
  have q0 : (l.flatMap c148_o)[j * 2 + 0]? = some (.str ((l[j]).1)) := (flat_at zc148_o hj (by decide)).trans rfl
  have b0 := cnt_bd q0 h1
  rw [show cntV (.str ((l[j]).1)) = 1 from rfl] at b0
  have x0 : k + (cntP (l.flatMap c148_o) (j * 2 + 0) : Int) + 1 = k + (cntP (l.flatMap c148_o) (j * 2 + 1) : Int) := cnt_s1 (k := k) q0 rfl
  have n0 : 0 ≤ k + (cntP (l.flatMap c148_o) (j * 2 + 0) : Int) := cnt_nn h0
  have q1 : (l.flatMap c148_o)[j * 2 + 1]? = some (oL 3 ci64 ((l[j]).2)) := (flat_at zc148_o hj (by decide)).trans rfl
  have b1 := cnt_bd q1 h1
  have n1 : 0 ≤ k + (cntP (l.flatMap c148_o) (j * 2 + 1) : Int) := cnt_nn h0
  refine ms_seq (ms_rgn (mo_move t0 (mo_move t5 (mo_move t1 (mo_call mtx_hb (args1 rfl) ((mtx_calls n0 (by omega) w).mono ?_))))))
  rintro e0 w1 ⟨rfl, z0⟩
  have hI0 := hI0.grow hd hbs z0
  obtain ⟨u0, c0, f0, hI1⟩ := hI0.str' hd hnd q0 (mtx_len n0 (by omega))
  refine ⟨_, rfl, mo_ia tbOk rfl rfl rfl hj (mo_fa tbOk rfl rfl rfl (mo_store tbOk rfl rfl rfl rfl c0 f0 rfl (mo_nil ?_)))⟩
  generalize hw2 : World.setCell _ _ _ = w2 at hI1 ⊢
  refine ms_seq (ms_rgn (mo_move t1 (mo_add rfl (by omega) (by unfold mB at b0; omega) (mo_asg rfl (mo_nil ?_)))))
  rw [x0]
  have k1 := m_laws_markIntS ((l[j]).2) (k + (cntP (l.flatMap c148_o) (j * 2 + 1) : Int)) n1 b1
  obtain ⟨u1, c1, d1⟩ := hI1.own' hd hnd hbs q1 k1
  have d1 : Calls Tryz.prog 82 #[u1, .int .i64 (k + (cntP (l.flatMap c148_o) (j * 2 + 1) : Int))] w2 (fun e' w' => e' = .returned (.int .i64 (k + (cntP (l.flatMap c148_o) (j * 2 + 2) : Int))) ∧ Inv Tryz.prog St mtx 148 l.length (l.flatMap c148_o) k (.slice (some ⟨g, 0, none⟩) l.length cap) bs w0 (j * 2 + 2) w') := d1
  refine ms_rgn (mo_move t0 (mo_move t5 (mo_ia tbOk rfl rfl rfl hj (mo_fa tbOk rfl rfl rfl (mo_load tbOk rfl rfl rfl c1 (mo_move rfl (mo_call (lit_hb lit82) (args2 rfl rfl) (d1.mono ?_))))))))
  rintro e1 w3 ⟨rfl, hI2⟩
  refine ⟨_, rfl, mo_asg rfl (mo_nil ?_)⟩
  exact ⟨rfl, t0, rfl, t5, hI2⟩
theorem m_laws_markAtomS (l : List Y147) (k : Int) (h0 : 0 ≤ k) (h1 : k + cntVs (l.flatMap c148_o) ≤ mB) : MarkAt Tryz.prog 81 (.own 148 l.length (l.flatMap c148_o)) k (.own 148 l.length (mkVs mtx (l.flatMap c148_o) k)) (k + cntVs (l.flatMap c148_o)) :=
  mark_slice tbOk (r := 27) (ty := 52) (it := 3) (bt := 4) lit81 (by decide) rfl (flat_len zc148_o l) (by decide) (r_laws_markAtomS l k h0 h1 rfl)
def ce55 (x : Y54) : Nat := (1) + (ce52 x.2.1) + (ce53 x.2.2)
def me55 (x : Y54) (k : Int) : Y54 := ((k), me52 x.2.1 (k + ((1 : Nat) : Int)), me53 x.2.2 (k + ((1 : Nat) : Int) + ((ce52 x.2.1 : Nat) : Int)))
theorem dp55 (x : Y54) : deepL (c55_ooo x) = true := (dpc rfl (dpc (dpo dp148 _) (dpc (dpo (fun _ => rfl) _) rfl)))
def ce76 (x : Y75) : Nat := (1) + (ce41 x.2.1) + (ce53 x.2.2)
def me76 (x : Y75) (k : Int) : Y75 := ((k), me41 x.2.1 (k + ((1 : Nat) : Int)), me53 x.2.2 (k + ((1 : Nat) : Int) + ((ce41 x.2.1 : Nat) : Int)))
theorem hm76 (x : Y75) (k : Int) : mkVs mtx (c76_ooo x) k = c76_ooo (me76 x k) := by
  have h : mkVs mtx [nI x.1, oL 53 c53_o x.2.1, oL 3 ci64 x.2.2] k = _ := (mkc (n := 1) (c' := V.int .i64 _) rfl rfl (mkc (mk_own hm53 hc53 _ _) (cnt_own hc53 _) (mkc (mk_own hmI hcI _ _) (cnt_own hcI _) (show mkVs mtx [] _ = [] from rfl))))
  refine h.trans ?_
  simp only [c76_ooo, me76, ce76, ce41, ce53, me41, me53, Int.add_assoc, ← Int.natCast_add, Nat.add_assoc, Int.natCast_add]
theorem hc76 (x : Y75) : cntVs (c76_ooo x) = ce76 x := by
  have h : cntVs [nI x.1, oL 53 c53_o x.2.1, oL 3 ci64 x.2.2] = _ := (cntc (n := 1) rfl (cntc (cnt_own hc53 _) (cntc (cnt_own hcI _) (show cntVs [] = 0 from rfl))))
  refine (show cntVs (c76_ooo x) = _ from h).trans ?_
  simp only [ce76, ce41, ce53, me41, me53, Nat.add_assoc, Nat.add_zero]
theorem dp76 (x : Y75) : deepL (c76_ooo x) = true := (dpc rfl (dpc (dpo dp53 _) (dpc (dpo (fun _ => rfl) _) rfl)))
def ce78 (x : Y77) : Nat := (ce55 x.1) + (ce76 x.2)
def me78 (x : Y77) (k : Int) : Y77 := (me55 x.1 (k), me76 x.2 (k + ((ce55 x.1 : Nat) : Int)))
theorem hm78 (x : Y77) (k : Int) : mkVs mtx (c78_oooooo x) k = c78_oooooo (me78 x k) := by
  have h : mkVs mtx [nI x.1.1, oL 148 c148_o x.1.2.1, oL 3 ci64 x.1.2.2, nI x.2.1, oL 53 c53_o x.2.2.1, oL 3 ci64 x.2.2.2] k = _ := (mkc (n := 1) (c' := V.int .i64 _) rfl rfl (mkc (mk_own hm148 hc148 _ _) (cnt_own hc148 _) (mkc (mk_own hmI hcI _ _) (cnt_own hcI _) (mkc (n := 1) (c' := V.int .i64 _) rfl rfl (mkc (mk_own hm53 hc53 _ _) (cnt_own hc53 _) (mkc (mk_own hmI hcI _ _) (cnt_own hcI _) (show mkVs mtx [] _ = [] from rfl)))))))
  refine h.trans ?_
  simp only [c78_oooooo, me78, ce78, c55_ooo, c76_ooo, ce41, ce52, ce53, ce55, ce76, me41, me52, me53, me55, me76, Int.add_assoc, ← Int.natCast_add, Nat.add_assoc, Int.natCast_add]
theorem hc78 (x : Y77) : cntVs (c78_oooooo x) = ce78 x := by
  have h : cntVs [nI x.1.1, oL 148 c148_o x.1.2.1, oL 3 ci64 x.1.2.2, nI x.2.1, oL 53 c53_o x.2.2.1, oL 3 ci64 x.2.2.2] = _ := (cntc (n := 1) rfl (cntc (cnt_own hc148 _) (cntc (cnt_own hcI _) (cntc (n := 1) rfl (cntc (cnt_own hc53 _) (cntc (cnt_own hcI _) (show cntVs [] = 0 from rfl)))))))
  refine (show cntVs (c78_oooooo x) = _ from h).trans ?_
  simp only [ce78, c55_ooo, c76_ooo, ce41, ce52, ce53, ce55, ce76, me41, me52, me53, me55, me76, Nat.add_assoc, Nat.add_zero]
theorem dp78 (x : Y77) : deepL (c78_oooooo x) = true := (dpc rfl (dpc (dpo dp148 _) (dpc (dpo (fun _ => rfl) _) (dpc rfl (dpc (dpo dp53 _) (dpc (dpo (fun _ => rfl) _) rfl))))))
def ce34 (x : List Y77) : Nat := cntL ce78 x
def me34 (x : List Y77) (k : Int) : List Y77 := mkL ce78 me78 x k
theorem r_laws_markViewS (l : List Y77) (k : Int) (h0 : 0 ≤ k) (h1 : k + cntVs (l.flatMap c78_oooooo) ≤ mB) {body : LC} (hb : body = (.seq (.rgn [] [LL 12 (.move (.tmp 0)) 34,
      LL 13 (.move (.tmp 5)) 3,
      LL 14 (.move (.tmp 1)) 3,
      LL 15 (.indexAddr 34 (.tmp 12) (.tmp 13)) 0,
      LL 16 (.fieldAddr 78 (.tmp 15) 0) 0,
      LL 17 (.fieldAddr 55 (.tmp 16) 0) 0,
      ⟨none, (.store 3 (.tmp 17) (.tmp 14)), 0, none⟩])
    (.seq (.rgn [] [LL 18 (.move (.tmp 1)) 3,
      LL 19 (.binOp .add 3 (.tmp 18) (.const (.int .i64 1)) 3) 3,
      LL 1 (.assign (.tmp 19)) 3])
    (.seq (.rgn [] [LL 20 (.move (.tmp 0)) 34,
      LL 21 (.move (.tmp 5)) 3,
      LL 22 (.indexAddr 34 (.tmp 20) (.tmp 21)) 0,
      LL 23 (.fieldAddr 78 (.tmp 22) 0) 0,
      LL 24 (.fieldAddr 55 (.tmp 23) 1) 0,
      LL 25 (.load 52 (.tmp 24)) 52,
      LL 26 (.move (.tmp 1)) 3,
      LL 27 (.call { callee := (.value (.func 81)), args := #[(.tmp 25), (.tmp 26)], argTypes := #[52, 3] }) 3,
      LL 1 (.assign (.tmp 27)) 3])
    (.seq (.rgn [] [LL 28 (.move (.tmp 0)) 34,
      LL 29 (.move (.tmp 5)) 3,
      LL 30 (.indexAddr 34 (.tmp 28) (.tmp 29)) 0,
      LL 31 (.fieldAddr 78 (.tmp 30) 0) 0,
      LL 32 (.fieldAddr 55 (.tmp 31) 2) 0,
      LL 33 (.load 53 (.tmp 32)) 53,
      LL 34 (.move (.tmp 1)) 3,
      LL 35 (.call { callee := (.value (.func 82)), args := #[(.tmp 33), (.tmp 34)], argTypes := #[53, 3] }) 3,
      LL 1 (.assign (.tmp 35)) 3])
    (.seq (.rgn [] [LL 36 (.move (.tmp 0)) 34,
      LL 37 (.move (.tmp 5)) 3,
      LL 38 (.move (.tmp 1)) 3,
      LL 39 (.indexAddr 34 (.tmp 36) (.tmp 37)) 0,
      LL 40 (.fieldAddr 78 (.tmp 39) 1) 0,
      LL 41 (.fieldAddr 76 (.tmp 40) 0) 0,
      ⟨none, (.store 3 (.tmp 41) (.tmp 38)), 0, none⟩])
    (.seq (.rgn [] [LL 42 (.move (.tmp 1)) 3,
      LL 43 (.binOp .add 3 (.tmp 42) (.const (.int .i64 1)) 3) 3,
      LL 1 (.assign (.tmp 43)) 3])
    (.seq (.rgn [] [LL 44 (.move (.tmp 0)) 34,
      LL 45 (.move (.tmp 5)) 3,
      LL 46 (.indexAddr 34 (.tmp 44) (.tmp 45)) 0,
      LL 47 (.fieldAddr 78 (.tmp 46) 1) 0,
      LL 48 (.fieldAddr 76 (.tmp 47) 1) 0,
      LL 49 (.load 41 (.tmp 48)) 41,
      LL 50 (.move (.tmp 1)) 3,
      LL 51 (.call { callee := (.value (.func 55)), args := #[(.tmp 49), (.tmp 50)], argTypes := #[41, 3] }) 3,
      LL 1 (.assign (.tmp 51)) 3])
    (.rgn [] [LL 52 (.move (.tmp 0)) 34,
      LL 53 (.move (.tmp 5)) 3,
      LL 54 (.indexAddr 34 (.tmp 52) (.tmp 53)) 0,
      LL 55 (.fieldAddr 78 (.tmp 54) 1) 0,
      LL 56 (.fieldAddr 76 (.tmp 55) 2) 0,
      LL 57 (.load 53 (.tmp 56)) 53,
      LL 58 (.move (.tmp 1)) 3,
      LL 59 (.call { callee := (.value (.func 82)), args := #[(.tmp 57), (.tmp 58)], argTypes := #[53, 3] }) 3,
      LL 1 (.assign (.tmp 59)) 3]))))))))) : Round Tryz.prog 61 [] mtx 78 6 body l.length (l.flatMap c78_oooooo) k := by
  subst hb
  intro St w0 bs g cap j w T hnd hbs hj hI0 t0 t1 t5
  have hd : deepL (l.flatMap c78_oooooo) = true := deep_flat dp78 l
  have hI0 : Inv Tryz.prog St mtx 78 l.length (l.flatMap c78_oooooo) k (.slice (some ⟨g, 0, none⟩) l.length cap) bs w0 (j * 6 + 0) w := hI0
  have t1 : T 1 = some (.int .i64 (k + (cntP (l.flatMap c78_oooooo) (j * 6 + 0) : Int))) := t1
  have q0 : (l.flatMap c78_oooooo)[j * 6 + 0]? = some (nI (((l[j]).1).1)) := (flat_at zc78_oooooo hj (by decide)).trans rfl
  have b0 := cnt_bd q0 h1
  rw [show cntV (nI (((l[j]).1).1)) = 1 from rfl] at b0
  have x0 : k + (cntP (l.flatMap c78_oooooo) (j * 6 + 0) : Int) + 1 = k + (cntP (l.flatMap c78_oooooo) (j * 6 + 1) : Int) := cnt_s1 (k := k) q0 rfl
  have n0 : 0 ≤ k + (cntP (l.flatMap c78_oooooo) (j * 6 + 0) : Int) := cnt_nn h0
  have q1 : (l.flatMap c78_oooooo)[j * 6 + 1]? = some (oL 148 c148_o (((l[j]).1).2.1)) := (flat_at zc78_oooooo hj (by decide)).trans rfl
  have b1 := cnt_bd q1 h1
  have n1 : 0 ≤ k + (cntP (l.flatMap c78_oooooo) (j * 6 + 1) : Int) := cnt_nn h0
  have q2 : (l.flatMap c78_oooooo)[j * 6 + 2]? = some (oL 3 ci64 (((l[j]).1).2.2)) := (flat_at zc78_oooooo hj (by decide)).trans rfl
  have b2 := cnt_bd q2 h1
  have n2 : 0 ≤ k + (cntP (l.flatMap c78_oooooo) (j * 6 + 2) : Int) := cnt_nn h0
  have q3 : (l.flatMap c78_oooooo)[j * 6 + 3]? = some (nI (((l[j]).2).1)) := (flat_at zc78_oooooo hj (by decide)).trans rfl
  have b3 := cnt_bd q3 h1
  rw [show cntV (nI (((l[j]).2).1)) = 1 from rfl] at b3
  have x3 : k + (cntP (l.flatMap c78_oooooo) (j * 6 + 3) : Int) + 1 = k + (cntP (l.flatMap c78_oooooo) (j * 6 + 4) : Int) := cnt_s1 (k := k) q3 rfl
  have n3 : 0 ≤ k + (cntP (l.flatMap c78_oooooo) (j * 6 + 3) : Int) := cnt_nn h0
  have q4 : (l.flatMap c78_oooooo)[j * 6 + 4]? = some (oL 53 c53_o (((l[j]).2).2.1)) := (flat_at zc78_oooooo hj (by decide)).trans rfl
  have b4 := cnt_bd q4 h1
  have n4 : 0 ≤ k + (cntP (l.flatMap c78_oooooo) (j * 6 + 4) : Int) := cnt_nn h0
  have q5 : (l.flatMap c78_oooooo)[j * 6 + 5]? = some (oL 3 ci64 (((l[j]).2).2.2)) := (flat_at zc78_oooooo hj (by decide)).trans rfl
  have b5 := cnt_bd q5 h1
  have n5 : 0 ≤ k + (cntP (l.flatMap c78_oooooo) (j * 6 + 5) : Int) := cnt_nn h0
  obtain ⟨u0, c0, f0, hI1⟩ := hI0.int' hd hnd q0
  refine ms_seq (ms_rgn (mo_move t0 (mo_move t5 (mo_move t1 (mo_ia tbOk rfl rfl rfl hj (mo_fa tbOk rfl rfl rfl (mo_fa tbOk rfl rfl rfl (mo_store tbOk rfl rfl rfl rfl c0 f0 rfl (mo_nil ?_)))))))))
  generalize hw1 : World.setCell _ _ _ = w1 at hI1 ⊢
  refine ms_seq (ms_rgn (mo_move t1 (mo_add rfl (by omega) (by unfold mB at b0; omega) (mo_asg rfl (mo_nil ?_)))))
  rw [x0]
  have k1 := m_laws_markAtomS (((l[j]).1).2.1) (k + (cntP (l.flatMap c78_oooooo) (j * 6 + 1) : Int)) n1 b1
  obtain ⟨u1, c1, d1⟩ := hI1.own' hd hnd hbs q1 k1
  have d1 : Calls Tryz.prog 81 #[u1, .int .i64 (k + (cntP (l.flatMap c78_oooooo) (j * 6 + 1) : Int))] w1 (fun e' w' => e' = .returned (.int .i64 (k + (cntP (l.flatMap c78_oooooo) (j * 6 + 2) : Int))) ∧ Inv Tryz.prog St mtx 78 l.length (l.flatMap c78_oooooo) k (.slice (some ⟨g, 0, none⟩) l.length cap) bs w0 (j * 6 + 2) w') := d1
  refine ms_seq (ms_rgn (mo_move t0 (mo_move t5 (mo_ia tbOk rfl rfl rfl hj (mo_fa tbOk rfl rfl rfl (mo_fa tbOk rfl rfl rfl (mo_load tbOk rfl rfl rfl c1 (mo_move rfl (mo_call (lit_hb lit81) (args2 rfl rfl) (d1.mono ?_))))))))))
  rintro e1 w2 ⟨rfl, hI2⟩
  refine ⟨_, rfl, mo_asg rfl (mo_nil ?_)⟩
  have k2 := m_laws_markIntS (((l[j]).1).2.2) (k + (cntP (l.flatMap c78_oooooo) (j * 6 + 2) : Int)) n2 b2
  obtain ⟨u2, c2, d2⟩ := hI2.own' hd hnd hbs q2 k2
  have d2 : Calls Tryz.prog 82 #[u2, .int .i64 (k + (cntP (l.flatMap c78_oooooo) (j * 6 + 2) : Int))] w2 (fun e' w' => e' = .returned (.int .i64 (k + (cntP (l.flatMap c78_oooooo) (j * 6 + 3) : Int))) ∧ Inv Tryz.prog St mtx 78 l.length (l.flatMap c78_oooooo) k (.slice (some ⟨g, 0, none⟩) l.length cap) bs w0 (j * 6 + 3) w') := d2
  refine ms_seq (ms_rgn (mo_move t0 (mo_move t5 (mo_ia tbOk rfl rfl rfl hj (mo_fa tbOk rfl rfl rfl (mo_fa tbOk rfl rfl rfl (mo_load tbOk rfl rfl rfl c2 (mo_move rfl (mo_call (lit_hb lit82) (args2 rfl rfl) (d2.mono ?_))))))))))
  rintro e2 w3 ⟨rfl, hI3⟩
  refine ⟨_, rfl, mo_asg rfl (mo_nil ?_)⟩
  obtain ⟨u3, c3, f3, hI4⟩ := hI3.int' hd hnd q3
  refine ms_seq (ms_rgn (mo_move t0 (mo_move t5 (mo_move rfl (mo_ia tbOk rfl rfl rfl hj (mo_fa tbOk rfl rfl rfl (mo_fa tbOk rfl rfl rfl (mo_store tbOk rfl rfl rfl rfl c3 f3 rfl (mo_nil ?_)))))))))
  generalize hw4 : World.setCell _ _ _ = w4 at hI4 ⊢
  refine ms_seq (ms_rgn (mo_move rfl (mo_add rfl (by omega) (by unfold mB at b3; omega) (mo_asg rfl (mo_nil ?_)))))
  rw [x3]
  have k4 := m_laws_markIntSS (((l[j]).2).2.1) (k + (cntP (l.flatMap c78_oooooo) (j * 6 + 4) : Int)) n4 b4
  obtain ⟨u4, c4, d4⟩ := hI4.own' hd hnd hbs q4 k4
  have d4 : Calls Tryz.prog 55 #[u4, .int .i64 (k + (cntP (l.flatMap c78_oooooo) (j * 6 + 4) : Int))] w4 (fun e' w' => e' = .returned (.int .i64 (k + (cntP (l.flatMap c78_oooooo) (j * 6 + 5) : Int))) ∧ Inv Tryz.prog St mtx 78 l.length (l.flatMap c78_oooooo) k (.slice (some ⟨g, 0, none⟩) l.length cap) bs w0 (j * 6 + 5) w') := d4
  refine ms_seq (ms_rgn (mo_move t0 (mo_move t5 (mo_ia tbOk rfl rfl rfl hj (mo_fa tbOk rfl rfl rfl (mo_fa tbOk rfl rfl rfl (mo_load tbOk rfl rfl rfl c4 (mo_move rfl (mo_call (lit_hb lit55) (args2 rfl rfl) (d4.mono ?_))))))))))
  rintro e4 w5 ⟨rfl, hI5⟩
  refine ⟨_, rfl, mo_asg rfl (mo_nil ?_)⟩
  have k5 := m_laws_markIntS (((l[j]).2).2.2) (k + (cntP (l.flatMap c78_oooooo) (j * 6 + 5) : Int)) n5 b5
  obtain ⟨u5, c5, d5⟩ := hI5.own' hd hnd hbs q5 k5
  have d5 : Calls Tryz.prog 82 #[u5, .int .i64 (k + (cntP (l.flatMap c78_oooooo) (j * 6 + 5) : Int))] w5 (fun e' w' => e' = .returned (.int .i64 (k + (cntP (l.flatMap c78_oooooo) (j * 6 + 6) : Int))) ∧ Inv Tryz.prog St mtx 78 l.length (l.flatMap c78_oooooo) k (.slice (some ⟨g, 0, none⟩) l.length cap) bs w0 (j * 6 + 6) w') := d5
  refine ms_rgn (mo_move t0 (mo_move t5 (mo_ia tbOk rfl rfl rfl hj (mo_fa tbOk rfl rfl rfl (mo_fa tbOk rfl rfl rfl (mo_load tbOk rfl rfl rfl c5 (mo_move rfl (mo_call (lit_hb lit82) (args2 rfl rfl) (d5.mono ?_)))))))))
  rintro e5 w6 ⟨rfl, hI6⟩
  refine ⟨_, rfl, mo_asg rfl (mo_nil ?_)⟩
  exact ⟨rfl, t0, rfl, t5, hI6⟩
theorem m_laws_markViewS (l : List Y77) (k : Int) (h0 : 0 ≤ k) (h1 : k + cntVs (l.flatMap c78_oooooo) ≤ mB) : MarkAt Tryz.prog 53 (.own 78 l.length (l.flatMap c78_oooooo)) k (.own 78 l.length (mkVs mtx (l.flatMap c78_oooooo) k)) (k + cntVs (l.flatMap c78_oooooo)) :=
  mark_slice tbOk (r := 60) (ty := 34) (it := 3) (bt := 4) lit53 (by decide) rfl (flat_len zc78_oooooo l) (by decide) (r_laws_markViewS l k h0 h1 rfl)
def ce35 (x : List Y75) : Nat := cntL ce76 x
def me35 (x : List Y75) (k : Int) : List Y75 := mkL ce76 me76 x k
theorem r_laws_markCountedRelationS (l : List Y75) (k : Int) (h0 : 0 ≤ k) (h1 : k + cntVs (l.flatMap c76_ooo) ≤ mB) {body : LC} (hb : body = (.seq (.rgn [] [LL 12 (.move (.tmp 0)) 35,
      LL 13 (.move (.tmp 5)) 3,
      LL 14 (.move (.tmp 1)) 3,
      LL 15 (.indexAddr 35 (.tmp 12) (.tmp 13)) 0,
      LL 16 (.fieldAddr 76 (.tmp 15) 0) 0,
      ⟨none, (.store 3 (.tmp 16) (.tmp 14)), 0, none⟩])
    (.seq (.rgn [] [LL 17 (.move (.tmp 1)) 3,
      LL 18 (.binOp .add 3 (.tmp 17) (.const (.int .i64 1)) 3) 3,
      LL 1 (.assign (.tmp 18)) 3])
    (.seq (.rgn [] [LL 19 (.move (.tmp 0)) 35,
      LL 20 (.move (.tmp 5)) 3,
      LL 21 (.indexAddr 35 (.tmp 19) (.tmp 20)) 0,
      LL 22 (.fieldAddr 76 (.tmp 21) 1) 0,
      LL 23 (.load 41 (.tmp 22)) 41,
      LL 24 (.move (.tmp 1)) 3,
      LL 25 (.call { callee := (.value (.func 55)), args := #[(.tmp 23), (.tmp 24)], argTypes := #[41, 3] }) 3,
      LL 1 (.assign (.tmp 25)) 3])
    (.rgn [] [LL 26 (.move (.tmp 0)) 35,
      LL 27 (.move (.tmp 5)) 3,
      LL 28 (.indexAddr 35 (.tmp 26) (.tmp 27)) 0,
      LL 29 (.fieldAddr 76 (.tmp 28) 2) 0,
      LL 30 (.load 53 (.tmp 29)) 53,
      LL 31 (.move (.tmp 1)) 3,
      LL 32 (.call { callee := (.value (.func 82)), args := #[(.tmp 30), (.tmp 31)], argTypes := #[53, 3] }) 3,
      LL 1 (.assign (.tmp 32)) 3]))))) : Round Tryz.prog 34 [] mtx 76 3 body l.length (l.flatMap c76_ooo) k := by
  subst hb
  intro St w0 bs g cap j w T hnd hbs hj hI0 t0 t1 t5
  have hd : deepL (l.flatMap c76_ooo) = true := deep_flat dp76 l
  have hI0 : Inv Tryz.prog St mtx 76 l.length (l.flatMap c76_ooo) k (.slice (some ⟨g, 0, none⟩) l.length cap) bs w0 (j * 3 + 0) w := hI0
  have t1 : T 1 = some (.int .i64 (k + (cntP (l.flatMap c76_ooo) (j * 3 + 0) : Int))) := t1
  have q0 : (l.flatMap c76_ooo)[j * 3 + 0]? = some (nI ((l[j]).1)) := (flat_at zc76_ooo hj (by decide)).trans rfl
  have b0 := cnt_bd q0 h1
  rw [show cntV (nI ((l[j]).1)) = 1 from rfl] at b0
  have x0 : k + (cntP (l.flatMap c76_ooo) (j * 3 + 0) : Int) + 1 = k + (cntP (l.flatMap c76_ooo) (j * 3 + 1) : Int) := cnt_s1 (k := k) q0 rfl
  have n0 : 0 ≤ k + (cntP (l.flatMap c76_ooo) (j * 3 + 0) : Int) := cnt_nn h0
  have q1 : (l.flatMap c76_ooo)[j * 3 + 1]? = some (oL 53 c53_o ((l[j]).2.1)) := (flat_at zc76_ooo hj (by decide)).trans rfl
  have b1 := cnt_bd q1 h1
  have n1 : 0 ≤ k + (cntP (l.flatMap c76_ooo) (j * 3 + 1) : Int) := cnt_nn h0
  have q2 : (l.flatMap c76_ooo)[j * 3 + 2]? = some (oL 3 ci64 ((l[j]).2.2)) := (flat_at zc76_ooo hj (by decide)).trans rfl
  have b2 := cnt_bd q2 h1
  have n2 : 0 ≤ k + (cntP (l.flatMap c76_ooo) (j * 3 + 2) : Int) := cnt_nn h0
  obtain ⟨u0, c0, f0, hI1⟩ := hI0.int' hd hnd q0
  refine ms_seq (ms_rgn (mo_move t0 (mo_move t5 (mo_move t1 (mo_ia tbOk rfl rfl rfl hj (mo_fa tbOk rfl rfl rfl (mo_store tbOk rfl rfl rfl rfl c0 f0 rfl (mo_nil ?_))))))))
  generalize hw1 : World.setCell _ _ _ = w1 at hI1 ⊢
  refine ms_seq (ms_rgn (mo_move t1 (mo_add rfl (by omega) (by unfold mB at b0; omega) (mo_asg rfl (mo_nil ?_)))))
  rw [x0]
  have k1 := m_laws_markIntSS ((l[j]).2.1) (k + (cntP (l.flatMap c76_ooo) (j * 3 + 1) : Int)) n1 b1
  obtain ⟨u1, c1, d1⟩ := hI1.own' hd hnd hbs q1 k1
  have d1 : Calls Tryz.prog 55 #[u1, .int .i64 (k + (cntP (l.flatMap c76_ooo) (j * 3 + 1) : Int))] w1 (fun e' w' => e' = .returned (.int .i64 (k + (cntP (l.flatMap c76_ooo) (j * 3 + 2) : Int))) ∧ Inv Tryz.prog St mtx 76 l.length (l.flatMap c76_ooo) k (.slice (some ⟨g, 0, none⟩) l.length cap) bs w0 (j * 3 + 2) w') := d1
  refine ms_seq (ms_rgn (mo_move t0 (mo_move t5 (mo_ia tbOk rfl rfl rfl hj (mo_fa tbOk rfl rfl rfl (mo_load tbOk rfl rfl rfl c1 (mo_move rfl (mo_call (lit_hb lit55) (args2 rfl rfl) (d1.mono ?_)))))))))
  rintro e1 w2 ⟨rfl, hI2⟩
  refine ⟨_, rfl, mo_asg rfl (mo_nil ?_)⟩
  have k2 := m_laws_markIntS ((l[j]).2.2) (k + (cntP (l.flatMap c76_ooo) (j * 3 + 2) : Int)) n2 b2
  obtain ⟨u2, c2, d2⟩ := hI2.own' hd hnd hbs q2 k2
  have d2 : Calls Tryz.prog 82 #[u2, .int .i64 (k + (cntP (l.flatMap c76_ooo) (j * 3 + 2) : Int))] w2 (fun e' w' => e' = .returned (.int .i64 (k + (cntP (l.flatMap c76_ooo) (j * 3 + 3) : Int))) ∧ Inv Tryz.prog St mtx 76 l.length (l.flatMap c76_ooo) k (.slice (some ⟨g, 0, none⟩) l.length cap) bs w0 (j * 3 + 3) w') := d2
  refine ms_rgn (mo_move t0 (mo_move t5 (mo_ia tbOk rfl rfl rfl hj (mo_fa tbOk rfl rfl rfl (mo_load tbOk rfl rfl rfl c2 (mo_move rfl (mo_call (lit_hb lit82) (args2 rfl rfl) (d2.mono ?_))))))))
  rintro e2 w3 ⟨rfl, hI3⟩
  refine ⟨_, rfl, mo_asg rfl (mo_nil ?_)⟩
  exact ⟨rfl, t0, rfl, t5, hI3⟩
theorem m_laws_markCountedRelationS (l : List Y75) (k : Int) (h0 : 0 ≤ k) (h1 : k + cntVs (l.flatMap c76_ooo) ≤ mB) : MarkAt Tryz.prog 54 (.own 76 l.length (l.flatMap c76_ooo)) k (.own 76 l.length (mkVs mtx (l.flatMap c76_ooo) k)) (k + cntVs (l.flatMap c76_ooo)) :=
  mark_slice tbOk (r := 33) (ty := 35) (it := 3) (bt := 4) lit54 (by decide) rfl (flat_len zc76_ooo l) (by decide) (r_laws_markCountedRelationS l k h0 h1 rfl)
theorem dp37 (x : Y36) : deepL (c37_oooooooooooooo x) = true := (dpc (dpo dp120 _) (dpc (dpo dp78 _) (dpc (dpo dp76 _) rfl)))
def cs37 (x : Y36) : Nat := cs33 x.1 + ce34 x.2.1 + ce35 x.2.2
def ms37 (x : Y36) (k : Int) : Y36 := (ms33 x.1 (k), me34 x.2.1 (k + ((cs33 x.1 : Nat) : Int)), me35 x.2.2 (k + ((cs33 x.1 : Nat) : Int) + ((ce34 x.2.1 : Nat) : Int)))
theorem hs37 (x : Y36) (k : Int) : mkA mtx (c37_oooooooooooooo x) k = c37_oooooooooooooo (ms37 x k) := by
  have h : mkA mtx [oL 120 c120_oo x.1, oL 78 c78_oooooo x.2.1, oL 76 c76_ooo x.2.2] k = _ := (mkao hm120 hc120 _ (mkao hm78 hc78 _ (mkao hm76 hc76 _ (show mkA mtx [] _ = [] from rfl))))
  refine h.trans ?_
  simp only [c37_oooooooooooooo, ms37, cs37, c33_ooo, ce31, ce34, ce35, cs33, me31, me34, me35, ms33, Int.add_assoc, ← Int.natCast_add, Nat.add_assoc, Int.natCast_add]
theorem hz37 (x : Y36) : cntA (c37_oooooooooooooo x) = cs37 x := by
  have h : cntA [oL 120 c120_oo x.1, oL 78 c78_oooooo x.2.1, oL 76 c76_ooo x.2.2] = _ := (cntao hc120 _ (cntao hc78 _ (cntao hc76 _ (show cntA [] = 0 from rfl))))
  refine (show cntA (c37_oooooooooooooo x) = _ from h).trans ?_
  simp only [cs37, c33_ooo, ce31, ce34, ce35, cs33, me31, me34, me35, ms33, Nat.add_assoc, Nat.add_zero, Nat.zero_add]
theorem m_laws_markNotifier (x : Y36) (k : Int) (h0 : 0 ≤ k) (h1 : k + cntA (c37_oooooooooooooo x) ≤ mB) : MarkAt Tryz.prog 15 (.agg (c37_oooooooooooooo x)) k (.agg (mkA mtx (c37_oooooooooooooo x) k)) (k + cntA (c37_oooooooooooooo x)) := by
  refine ⟨lit_hb lit15, fun w0 St v bs hO hnd hbs => ?_⟩
  obtain ⟨us, rfl, hO⟩ := hO
  refine calls_ms (rs := []) (vs := [.agg us.toArray, .int .i64 k]) lit15 (Nat.le_of_ble_eq_true rfl) ?_
  have hd : deepL (c37_oooooooooooooo x) = true := dp37 x
  have hI0 := InvA.start (mt := mtx) (k := k) (t := 37) hO hd hbs
  refine ms_seq (ms_rgn (mo_box rfl (mo_asgc (mo_nil ?_))))
  have q0 : ((c37_oooooooooooooo x).drop 0).take 1 = c33_ooo x.1 := rfl
  obtain ⟨u0, l0, c0, d0⟩ := hI0.agg hd hnd hbs (Nat.le_of_ble_eq_true rfl) q0 (m_laws_markDatabase x.1 (k + (cntA ((c37_oooooooooooooo x).take 0) : Int)) (by omega) (cntA_bdp q0 h1))
  refine ms_seq (ms_rgn (mo_fa tbOk rfl rfl rfl (mo_loadA tbOk rfl l0 rfl c0 (mo_move (t1_0 (k := k) (n := cntA ((c37_oooooooooooooo x).take 0)) rfl) (mo_call (lit_hb lit52) (args2 rfl rfl) (d0.mono ?_))))))
  rintro e0 w1 ⟨rfl, hI1⟩
  refine ⟨_, rfl, mo_asg rfl (mo_nil ?_)⟩
  have q1 : (c37_oooooooooooooo x)[1]? = some (oL 78 c78_oooooo x.2.1) := rfl
  obtain ⟨u1, c1, d1⟩ := hI1.own hd hnd hbs q1 (m_laws_markViewS x.2.1 (k + (cntA ((c37_oooooooooooooo x).take 1) : Int)) (by omega) (cntA_bd q1 h1))
  refine ms_seq (ms_rgn (mo_fa tbOk rfl rfl rfl (mo_load tbOk rfl rfl rfl c1 (mo_move rfl (mo_call (lit_hb lit53) (args2 rfl rfl) (d1.mono ?_))))))
  rintro e1 w2 ⟨rfl, hI2⟩
  refine ⟨_, rfl, mo_asg rfl (mo_nil ?_)⟩
  have q2 : (c37_oooooooooooooo x)[2]? = some (oL 76 c76_ooo x.2.2) := rfl
  obtain ⟨u2, c2, d2⟩ := hI2.own hd hnd hbs q2 (m_laws_markCountedRelationS x.2.2 (k + (cntA ((c37_oooooooooooooo x).take 2) : Int)) (by omega) (cntA_bd q2 h1))
  refine ms_seq (ms_rgn (mo_fa tbOk rfl rfl rfl (mo_load tbOk rfl rfl rfl c2 (mo_move rfl (mo_call (lit_hb lit54) (args2 rfl rfl) (d2.mono ?_))))))
  rintro e2 w3 ⟨rfl, hI3⟩
  refine ⟨_, rfl, mo_asg rfl (mo_nil ?_)⟩
  obtain ⟨hx, hy⟩ := hI3.done (Nat.le_of_ble_eq_true rfl)
  refine ms_seq (ms_rgn (mo_move rfl (mo_asg rfl (mo_nil ?_))))
  exact ms_ret ⟨.inl rfl, _, rfl, rfl, ⟨us, rfl, hx⟩, hy⟩
def laws_markNotifier (x : Y36) (k : Int) : Option (Y36 × Int) := chk (0 ≤ k ∧ k + (cs37 x : Int) ≤ mB) (some (ms37 x k, k + cs37 x))
theorem laws_markNotifier_e {x : Y36} {k : Int} (h0 : 0 ≤ k) (h1 : k + (cs37 x : Int) ≤ mB) : laws_markNotifier x k = some (ms37 x k, k + cs37 x) := chk_pos ⟨h0, h1⟩
theorem laws_markNotifier_m {x : Y36} {k : Int} {r : Y36 × Int} (h : laws_markNotifier x k = some r) : MarkAt Tryz.prog 15 (.agg (c37_oooooooooooooo x)) k (.agg (c37_oooooooooooooo r.1)) r.2 := by
  obtain ⟨⟨h0, h1⟩, h⟩ := chk_some h
  have hr := Option.some.inj h
  subst hr
  have e := m_laws_markNotifier x k h0 (by rw [hz37]; exact h1)
  rw [hs37, hz37] at e
  exact e
def cs55 (x : Y54) : Nat := ce52 x.2.1 + ce53 x.2.2
def ms55 (x : Y54) (k : Int) : Y54 := (x.1, me52 x.2.1 (k), me53 x.2.2 (k + ((ce52 x.2.1 : Nat) : Int)))
theorem hs55 (x : Y54) (k : Int) : mkA mtx (c55_ooo x) k = c55_ooo (ms55 x k) := by
  have h : mkA mtx [nI x.1, oL 148 c148_o x.2.1, oL 3 ci64 x.2.2] k = _ := (mka (fun _ _ => rfl) (mkao hm148 hc148 _ (mkao hmI hcI _ (show mkA mtx [] _ = [] from rfl))))
  refine h.trans ?_
  simp only [c55_ooo, ms55, cs55, ce52, ce53, me52, me53, Int.add_assoc, ← Int.natCast_add, Nat.add_assoc, Int.natCast_add]
theorem hz55 (x : Y54) : cntA (c55_ooo x) = cs55 x := by
  have h : cntA [nI x.1, oL 148 c148_o x.2.1, oL 3 ci64 x.2.2] = _ := (cnta (fun _ => rfl) (cntao hc148 _ (cntao hcI _ (show cntA [] = 0 from rfl))))
  refine (show cntA (c55_ooo x) = _ from h).trans ?_
  simp only [cs55, ce52, ce53, me52, me53, Nat.add_assoc, Nat.add_zero, Nat.zero_add]
theorem m_laws_markQuery (x : Y54) (k : Int) (h0 : 0 ≤ k) (h1 : k + cntA (c55_ooo x) ≤ mB) : MarkAt Tryz.prog 30 (.agg (c55_ooo x)) k (.agg (mkA mtx (c55_ooo x) k)) (k + cntA (c55_ooo x)) := by
  refine ⟨lit_hb lit30, fun w0 St v bs hO hnd hbs => ?_⟩
  obtain ⟨us, rfl, hO⟩ := hO
  refine calls_ms (rs := []) (vs := [.agg us.toArray, .int .i64 k]) lit30 (Nat.le_of_ble_eq_true rfl) ?_
  have hd : deepL (c55_ooo x) = true := dp55 x
  have hI0 := InvA.start (mt := mtx) (k := k) (t := 55) hO hd hbs
  refine ms_seq (ms_rgn (mo_box rfl (mo_asgc (mo_nil ?_))))
  have hI1 := hI0.skip (c := nI x.1) rfl (fun _ => rfl)
  have q1 : (c55_ooo x)[1]? = some (oL 148 c148_o x.2.1) := rfl
  obtain ⟨u1, c1, d1⟩ := hI1.own hd hnd hbs q1 (m_laws_markAtomS x.2.1 (k + (cntA ((c55_ooo x).take 1) : Int)) (by omega) (cntA_bd q1 h1))
  refine ms_seq (ms_rgn (mo_fa tbOk rfl rfl rfl (mo_load tbOk rfl rfl rfl c1 (mo_move (t1_0 (k := k) (n := cntA ((c55_ooo x).take 1)) rfl) (mo_call (lit_hb lit81) (args2 rfl rfl) (d1.mono ?_))))))
  rintro e1 w1 ⟨rfl, hI2⟩
  refine ⟨_, rfl, mo_asg rfl (mo_nil ?_)⟩
  have q2 : (c55_ooo x)[2]? = some (oL 3 ci64 x.2.2) := rfl
  obtain ⟨u2, c2, d2⟩ := hI2.own hd hnd hbs q2 (m_laws_markIntS x.2.2 (k + (cntA ((c55_ooo x).take 2) : Int)) (by omega) (cntA_bd q2 h1))
  refine ms_seq (ms_rgn (mo_fa tbOk rfl rfl rfl (mo_load tbOk rfl rfl rfl c2 (mo_move rfl (mo_call (lit_hb lit82) (args2 rfl rfl) (d2.mono ?_))))))
  rintro e2 w2 ⟨rfl, hI3⟩
  refine ⟨_, rfl, mo_asg rfl (mo_nil ?_)⟩
  obtain ⟨hx, hy⟩ := hI3.done (Nat.le_of_ble_eq_true rfl)
  refine ms_seq (ms_rgn (mo_move rfl (mo_asg rfl (mo_nil ?_))))
  exact ms_ret ⟨.inl rfl, _, rfl, rfl, ⟨us, rfl, hx⟩, hy⟩
def laws_markQuery (x : Y54) (k : Int) : Option (Y54 × Int) := chk (0 ≤ k ∧ k + (cs55 x : Int) ≤ mB) (some (ms55 x k, k + cs55 x))
theorem laws_markQuery_e {x : Y54} {k : Int} (h0 : 0 ≤ k) (h1 : k + (cs55 x : Int) ≤ mB) : laws_markQuery x k = some (ms55 x k, k + cs55 x) := chk_pos ⟨h0, h1⟩
theorem laws_markQuery_m {x : Y54} {k : Int} {r : Y54 × Int} (h : laws_markQuery x k = some r) : MarkAt Tryz.prog 30 (.agg (c55_ooo x)) k (.agg (c55_ooo r.1)) r.2 := by
  obtain ⟨⟨h0, h1⟩, h⟩ := chk_some h
  have hr := Option.some.inj h
  subst hr
  have e := m_laws_markQuery x k h0 (by rw [hz55]; exact h1)
  rw [hs55, hz55] at e
  exact e
end Go.Proofs.YtceghmdneadhbaaGreat
