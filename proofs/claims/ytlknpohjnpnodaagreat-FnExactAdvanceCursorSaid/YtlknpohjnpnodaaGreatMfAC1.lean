/-
  What the functions that mark do: contracts and typed functions, printed by genmark.py. No conditions.
-/
import Derived.Test.YtlknpohjnpnodaaGreatMxAC1
namespace Go.Proofs.YtlknpohjnpnodaaGreat
open Go.RowKit
set_option linter.unusedVariables false
set_option linter.unusedSimpArgs false
set_option maxRecDepth 100000
def c27_d (x : List Int) : List V := [dL ci64 x]
theorem zc27_d (x : List Int) : (c27_d x).length = 1 := rfl
theorem ec27_d (x : List Int) : erL (c27_d x) = c27_d x := (erc (erD eci64 _) rfl)
def c27_o (x : List Int) : List V := [oL 3 ci64 x]
theorem zc27_o (x : List Int) : (c27_o x).length = 1 := rfl
theorem ec27_o (x : List Int) : erL (c27_o x) = c27_d x := (erc (erO eci64 _) rfl)
def c39_dd (x : List (List Int)) : List V := [dL c27_d x]
abbrev Y40 := Int × (List (List Int))
def c41_dd (x : Y40) : List V := [nI x.1, dL c27_d x.2]
def c41_oo (x : Y40) : List V := [nI x.1, oL 27 c27_o x.2]
abbrev Y113 := (List UInt8) × Y40
def c114_dd (x : Y113) : List V := [.str x.1, nI x.2.1, dL c27_d x.2.2]
theorem zc114_dd (x : Y113) : (c114_dd x).length = 3 := rfl
theorem ec114_dd (x : Y113) : erL (c114_dd x) = c114_dd x := (erc rfl (erc rfl (erc (erD ec27_d _) rfl)))
def c114_oo (x : Y113) : List V := [.str x.1, nI x.2.1, oL 27 c27_o x.2.2]
theorem zc114_oo (x : Y113) : (c114_oo x).length = 3 := rfl
theorem ec114_oo (x : Y113) : erL (c114_oo x) = c114_dd x := (erc rfl (erc rfl (erc (erO ec27_o _) rfl)))
def c77_ddd (x : List Y113) : List V := [dL c114_dd x]
theorem zc77_ddd (x : List Y113) : (c77_ddd x).length = 1 := rfl
theorem ec77_ddd (x : List Y113) : erL (c77_ddd x) = c77_ddd x := (erc (erD ec114_dd _) rfl)
def c77_ooo (x : List Y113) : List V := [oL 114 c114_oo x]
theorem zc77_ooo (x : List Y113) : (c77_ooo x).length = 1 := rfl
theorem ec77_ooo (x : List Y113) : erL (c77_ooo x) = c77_ddd x := (erc (erO ec114_oo _) rfl)
abbrev Y25 := Int × (List (List Y113))
def c26_dddd (x : Y25) : List V := [nI x.1, dL c77_ddd x.2]
def c26_oooo (x : Y25) : List V := [nI x.1, oL 77 c77_ooo x.2]
abbrev Y108 := (List UInt8) × (List Int)
def c109_d (x : Y108) : List V := [.str x.1, dL ci64 x.2]
theorem zc109_d (x : Y108) : (c109_d x).length = 2 := rfl
theorem ec109_d (x : Y108) : erL (c109_d x) = c109_d x := (erc rfl (erc (erD eci64 _) rfl))
def c109_o (x : Y108) : List V := [.str x.1, oL 3 ci64 x.2]
theorem zc109_o (x : Y108) : (c109_o x).length = 2 := rfl
theorem ec109_o (x : Y108) : erL (c109_o x) = c109_d x := (erc rfl (erc (erO eci64 _) rfl))
abbrev Y29 := Int × (List Y108) × (List Int)
def c30_ddd (x : Y29) : List V := [nI x.1, dL c109_d x.2.1, dL ci64 x.2.2]
def c30_ooo (x : Y29) : List V := [nI x.1, oL 109 c109_o x.2.1, oL 3 ci64 x.2.2]
abbrev Y31 := Int × (List Int) × (List Int) × Y29
def c32_ddddd (x : Y31) : List V := [nI x.1, dL ci64 x.2.1, dL ci64 x.2.2.1, nI x.2.2.2.1, dL c109_d x.2.2.2.2.1, dL ci64 x.2.2.2.2.2]
def c32_ooooo (x : Y31) : List V := [nI x.1, oL 3 ci64 x.2.1, oL 3 ci64 x.2.2.1, nI x.2.2.2.1, oL 109 c109_o x.2.2.2.2.1, oL 3 ci64 x.2.2.2.2.2]
def ce27 (x : List Int) : Nat := cntL oneI x
def me27 (x : List Int) (k : Int) : List Int := mkL oneI markI x k
theorem hm27 (x : List Int) (k : Int) : mkVs mtx (c27_o x) k = c27_o (me27 x k) := by
  unfold c27_o me27
  exact mkc (mk_own hmI hcI x k) (cnt_own hcI x) rfl
theorem hc27 (x : List Int) : cntVs (c27_o x) = ce27 x := by
  unfold c27_o ce27
  exact cntc (cnt_own hcI x) rfl
theorem dp27 (x : List Int) : deepL (c27_o x) = true := dpc (dpo (fun _ => rfl) x) rfl
theorem r_laws_markIntS (l : List Int) (k : Int) (h0 : 0 ≤ k) (h1 : k + cntVs (l.flatMap ci64) ≤ mB) {body : LC} (hb : body = (.seq (.rgn [] [LL 12 (.move (.tmp 0)) 27,
      LL 13 (.move (.tmp 5)) 3,
      LL 14 (.move (.tmp 1)) 3,
      LL 15 (.indexAddr 27 (.tmp 12) (.tmp 13)) 0,
      ⟨none, (.store 3 (.tmp 15) (.tmp 14)), 0, none⟩])
    (.rgn [] [LL 16 (.move (.tmp 1)) 3,
      LL 17 (.binOp .add 3 (.tmp 16) (.const (.int .i64 1)) 3) 3,
      LL 1 (.assign (.tmp 17)) 3]))) : Round Tryz.prog 19 [] mtx 3 1 body l.length (l.flatMap ci64) k := by
  subst hb
  intro St w0 bs g cap j w T hnd hbs hj hI0 t0 t1 t5
  have hd : deepL (l.flatMap ci64) = true := deep_flat (fun _ => rfl) l
  have hI0 : Inv Tryz.prog St mtx 3 l.length (l.flatMap ci64) k (.slice (some ⟨g, 0, none⟩) l.length cap) bs w0 (j * 1 + 0) w := hI0
  have t1 : T 1 = some (.int .i64 (k + (cntP (l.flatMap ci64) (j * 1 + 0) : Int))) := t1
  have q0 : (l.flatMap ci64)[j * 1 + 0]? = some (nI (l[j])) := (flat_at zci64 hj (by decide)).trans rfl
  have b0 := cnt_bd q0 h1
  rw [show cntV (nI (l[j])) = 1 from rfl] at b0
  have x0 : k + (cntP (l.flatMap ci64) (j * 1 + 0) : Int) + 1 = k + (cntP (l.flatMap ci64) (j * 1 + 1) : Int) := cnt_s1 (k := k) q0 rfl
  have n0 : 0 ≤ k + (cntP (l.flatMap ci64) (j * 1 + 0) : Int) := cnt_nn h0
  obtain ⟨u0, c0, f0, hI1⟩ := hI0.int' hd hnd q0
  refine ms_seq (ms_rgn (mo_move t0 (mo_move t5 (mo_move t1 (mo_ia tbOk rfl rfl rfl hj (mo_store tbOk rfl rfl rfl rfl c0 f0 rfl (mo_nil ?_)))))))
  generalize hw1 : World.setCell _ _ _ = w1 at hI1 ⊢
  refine ms_rgn (mo_move t1 (mo_add rfl (by omega) (by unfold mB at b0; omega) (mo_asg rfl (mo_nil ?_))))
  rw [x0]
  exact ⟨rfl, t0, rfl, t5, hI1⟩
theorem m_laws_markIntS (l : List Int) (k : Int) (h0 : 0 ≤ k) (h1 : k + cntVs (l.flatMap ci64) ≤ mB) : MarkAt Tryz.prog 26 (.own 3 l.length (l.flatMap ci64)) k (.own 3 l.length (mkVs mtx (l.flatMap ci64) k)) (k + cntVs (l.flatMap ci64)) :=
  mark_slice tbOk (r := 18) (ty := 27) (it := 3) (bt := 4) lit26 (by decide) rfl (flat_len zci64 l) (by decide) (r_laws_markIntS l k h0 h1 rfl)
def laws_markIntS (x : List Int) (k : Int) : Option ((List Int) × Int) := chk (0 ≤ k ∧ k + (ce27 x : Int) ≤ mB) (some (me27 x k, k + ce27 x))
theorem laws_markIntS_e {x : List Int} {k : Int} (h0 : 0 ≤ k) (h1 : k + (ce27 x : Int) ≤ mB) : laws_markIntS x k = some (me27 x k, k + ce27 x) := chk_pos ⟨h0, h1⟩
theorem laws_markIntS_m {x : List Int} {k : Int} {r : (List Int) × Int} (h : laws_markIntS x k = some r) : MarkAt Tryz.prog 26 (oL 3 ci64 x) k (oL 3 ci64 r.1) r.2 := by
  obtain ⟨⟨h0, h1⟩, h⟩ := chk_some h
  have hr := Option.some.inj h
  subst hr
  have hx := cntVs_flat (f := ci64) (cnt := oneI) hcI x
  have e := m_laws_markIntS x k h0 (by rw [hx]; exact h1)
  rw [mkVs_flat (f := ci64) (cnt := oneI) (mk := markI) hmI hcI, hx] at e
  show MarkAt Tryz.prog 26 _ k (.own 3 (mkL oneI markI x k).length ((mkL oneI markI x k).flatMap ci64)) (k + (cntL oneI x : Int))
  rw [mkL_length]
  exact e
def ce39 (x : List (List Int)) : Nat := cntL ce27 x
def me39 (x : List (List Int)) (k : Int) : List (List Int) := mkL ce27 me27 x k
theorem r_laws_markIntSS (l : List (List Int)) (k : Int) (h0 : 0 ≤ k) (h1 : k + cntVs (l.flatMap c27_o) ≤ mB) {body : LC} (hb : body = (.rgn [] [LL 12 (.move (.tmp 0)) 39,
      LL 13 (.move (.tmp 5)) 3,
      LL 14 (.indexAddr 39 (.tmp 12) (.tmp 13)) 0,
      LL 15 (.load 27 (.tmp 14)) 27,
      LL 16 (.move (.tmp 1)) 3,
      LL 17 (.call { callee := (.value (.func 26)), args := #[(.tmp 15), (.tmp 16)], argTypes := #[27, 3] }) 3,
      LL 1 (.assign (.tmp 17)) 3])) : Round Tryz.prog 19 [] mtx 27 1 body l.length (l.flatMap c27_o) k := by
  subst hb
  intro St w0 bs g cap j w T hnd hbs hj hI0 t0 t1 t5
  have hd : deepL (l.flatMap c27_o) = true := deep_flat dp27 l
  have hI0 : Inv Tryz.prog St mtx 27 l.length (l.flatMap c27_o) k (.slice (some ⟨g, 0, none⟩) l.length cap) bs w0 (j * 1 + 0) w := hI0
  have t1 : T 1 = some (.int .i64 (k + (cntP (l.flatMap c27_o) (j * 1 + 0) : Int))) := t1
  have q0 : (l.flatMap c27_o)[j * 1 + 0]? = some (oL 3 ci64 (l[j])) := (flat_at zc27_o hj (by decide)).trans rfl
  have b0 := cnt_bd q0 h1
  have n0 : 0 ≤ k + (cntP (l.flatMap c27_o) (j * 1 + 0) : Int) := cnt_nn h0
  have k0 := m_laws_markIntS (l[j]) (k + (cntP (l.flatMap c27_o) (j * 1 + 0) : Int)) n0 b0
  obtain ⟨u0, c0, d0⟩ := hI0.own' hd hnd hbs q0 k0
  have d0 : Calls Tryz.prog 26 #[u0, .int .i64 (k + (cntP (l.flatMap c27_o) (j * 1 + 0) : Int))] w (fun e' w' => e' = .returned (.int .i64 (k + (cntP (l.flatMap c27_o) (j * 1 + 1) : Int))) ∧ Inv Tryz.prog St mtx 27 l.length (l.flatMap c27_o) k (.slice (some ⟨g, 0, none⟩) l.length cap) bs w0 (j * 1 + 1) w') := d0
  refine ms_rgn (mo_move t0 (mo_move t5 (mo_ia tbOk rfl rfl rfl hj (mo_load tbOk rfl rfl rfl c0 (mo_move t1 (mo_call (lit_hb lit26) (args2 rfl rfl) (d0.mono ?_)))))))
  rintro e0 w1 ⟨rfl, hI1⟩
  refine ⟨_, rfl, mo_asg rfl (mo_nil ?_)⟩
  exact ⟨rfl, t0, rfl, t5, hI1⟩
theorem m_laws_markIntSS (l : List (List Int)) (k : Int) (h0 : 0 ≤ k) (h1 : k + cntVs (l.flatMap c27_o) ≤ mB) : MarkAt Tryz.prog 130 (.own 27 l.length (l.flatMap c27_o)) k (.own 27 l.length (mkVs mtx (l.flatMap c27_o) k)) (k + cntVs (l.flatMap c27_o)) :=
  mark_slice tbOk (r := 18) (ty := 39) (it := 3) (bt := 4) lit130 (by decide) rfl (flat_len zc27_o l) (by decide) (r_laws_markIntSS l k h0 h1 rfl)
def ce41 (x : Y40) : Nat := (1) + (ce39 x.2)
def me41 (x : Y40) (k : Int) : Y40 := ((k), me39 x.2 (k + ((1 : Nat) : Int)))
def ce114 (x : Y113) : Nat := (1) + (ce41 x.2)
def me114 (x : Y113) (k : Int) : Y113 := (mtx (k), me41 x.2 (k + ((1 : Nat) : Int)))
theorem hm114 (x : Y113) (k : Int) : mkVs mtx (c114_oo x) k = c114_oo (me114 x k) := by
  have h : mkVs mtx [.str x.1, nI x.2.1, oL 27 c27_o x.2.2] k = _ := (mkc (n := 1) (c' := V.str _) rfl rfl (mkc (n := 1) (c' := V.int .i64 _) rfl rfl (mkc (mk_own hm27 hc27 _ _) (cnt_own hc27 _) (show mkVs mtx [] _ = [] from rfl))))
  refine h.trans ?_
  simp only [c114_oo, me114, ce114, c41_oo, ce39, ce41, me39, me41, Int.add_assoc, ← Int.natCast_add, Nat.add_assoc, Int.natCast_add]
theorem hc114 (x : Y113) : cntVs (c114_oo x) = ce114 x := by
  have h : cntVs [.str x.1, nI x.2.1, oL 27 c27_o x.2.2] = _ := (cntc (n := 1) rfl (cntc (n := 1) rfl (cntc (cnt_own hc27 _) (show cntVs [] = 0 from rfl))))
  refine (show cntVs (c114_oo x) = _ from h).trans ?_
  simp only [ce114, c41_oo, ce39, ce41, me39, me41, Nat.add_assoc, Nat.add_zero]
theorem dp114 (x : Y113) : deepL (c114_oo x) = true := (dpc rfl (dpc rfl (dpc (dpo dp27 _) rfl)))
def ce75 (x : List Y113) : Nat := cntL ce114 x
def me75 (x : List Y113) (k : Int) : List Y113 := mkL ce114 me114 x k
theorem r_laws_markTableS (l : List Y113) (k : Int) (h0 : 0 ≤ k) (h1 : k + cntVs (l.flatMap c114_oo) ≤ mB) {body : LC} (hb : body = (.seq (.rgn [] [LL 12 (.move (.tmp 0)) 75,
      LL 13 (.move (.tmp 5)) 3,
      LL 14 (.move (.tmp 1)) 3,
      LL 15 (.call { callee := (.value (.func 129)), args := #[(.tmp 14)], argTypes := #[3] }) 9,
      LL 16 (.indexAddr 75 (.tmp 12) (.tmp 13)) 0,
      LL 17 (.fieldAddr 114 (.tmp 16) 0) 0,
      ⟨none, (.store 9 (.tmp 17) (.tmp 15)), 0, none⟩])
    (.seq (.rgn [] [LL 18 (.move (.tmp 1)) 3,
      LL 19 (.binOp .add 3 (.tmp 18) (.const (.int .i64 1)) 3) 3,
      LL 1 (.assign (.tmp 19)) 3])
    (.seq (.rgn [] [LL 20 (.move (.tmp 0)) 75,
      LL 21 (.move (.tmp 5)) 3,
      LL 22 (.move (.tmp 1)) 3,
      LL 23 (.indexAddr 75 (.tmp 20) (.tmp 21)) 0,
      LL 24 (.fieldAddr 114 (.tmp 23) 1) 0,
      LL 25 (.fieldAddr 41 (.tmp 24) 0) 0,
      ⟨none, (.store 3 (.tmp 25) (.tmp 22)), 0, none⟩])
    (.seq (.rgn [] [LL 26 (.move (.tmp 1)) 3,
      LL 27 (.binOp .add 3 (.tmp 26) (.const (.int .i64 1)) 3) 3,
      LL 1 (.assign (.tmp 27)) 3])
    (.rgn [] [LL 28 (.move (.tmp 0)) 75,
      LL 29 (.move (.tmp 5)) 3,
      LL 30 (.indexAddr 75 (.tmp 28) (.tmp 29)) 0,
      LL 31 (.fieldAddr 114 (.tmp 30) 1) 0,
      LL 32 (.fieldAddr 41 (.tmp 31) 1) 0,
      LL 33 (.load 39 (.tmp 32)) 39,
      LL 34 (.move (.tmp 1)) 3,
      LL 35 (.call { callee := (.value (.func 130)), args := #[(.tmp 33), (.tmp 34)], argTypes := #[39, 3] }) 3,
      LL 1 (.assign (.tmp 35)) 3])))))) : Round Tryz.prog 37 [] mtx 114 3 body l.length (l.flatMap c114_oo) k := by
  subst hb
  intro St w0 bs g cap j w T hnd hbs hj hI0 t0 t1 t5
  have hd : deepL (l.flatMap c114_oo) = true := deep_flat dp114 l
  have hI0 : Inv Tryz.prog St mtx 114 l.length (l.flatMap c114_oo) k (.slice (some ⟨g, 0, none⟩) l.length cap) bs w0 (j * 3 + 0) w := hI0
  have t1 : T 1 = some (.int .i64 (k + (cntP (l.flatMap c114_oo) (j * 3 + 0) : Int))) := t1
  have q0 : (l.flatMap c114_oo)[j * 3 + 0]? = some (.str ((l[j]).1)) := (flat_at zc114_oo hj (by decide)).trans rfl
  have b0 := cnt_bd q0 h1
  rw [show cntV (.str ((l[j]).1)) = 1 from rfl] at b0
  have x0 : k + (cntP (l.flatMap c114_oo) (j * 3 + 0) : Int) + 1 = k + (cntP (l.flatMap c114_oo) (j * 3 + 1) : Int) := cnt_s1 (k := k) q0 rfl
  have n0 : 0 ≤ k + (cntP (l.flatMap c114_oo) (j * 3 + 0) : Int) := cnt_nn h0
  have q1 : (l.flatMap c114_oo)[j * 3 + 1]? = some (nI (((l[j]).2).1)) := (flat_at zc114_oo hj (by decide)).trans rfl
  have b1 := cnt_bd q1 h1
  rw [show cntV (nI (((l[j]).2).1)) = 1 from rfl] at b1
  have x1 : k + (cntP (l.flatMap c114_oo) (j * 3 + 1) : Int) + 1 = k + (cntP (l.flatMap c114_oo) (j * 3 + 2) : Int) := cnt_s1 (k := k) q1 rfl
  have n1 : 0 ≤ k + (cntP (l.flatMap c114_oo) (j * 3 + 1) : Int) := cnt_nn h0
  have q2 : (l.flatMap c114_oo)[j * 3 + 2]? = some (oL 27 c27_o (((l[j]).2).2)) := (flat_at zc114_oo hj (by decide)).trans rfl
  have b2 := cnt_bd q2 h1
  have n2 : 0 ≤ k + (cntP (l.flatMap c114_oo) (j * 3 + 2) : Int) := cnt_nn h0
  refine ms_seq (ms_rgn (mo_move t0 (mo_move t5 (mo_move t1 (mo_call mtx_hb (args1 rfl) ((mtx_calls n0 (by omega) w).mono ?_))))))
  rintro e0 w1 ⟨rfl, z0⟩
  have hI0 := hI0.grow hd hbs z0
  obtain ⟨u0, c0, f0, hI1⟩ := hI0.str' hd hnd q0 (mtx_len n0 (by omega))
  refine ⟨_, rfl, mo_ia tbOk rfl rfl rfl hj (mo_fa tbOk rfl rfl rfl (mo_store tbOk rfl rfl rfl rfl c0 f0 rfl (mo_nil ?_)))⟩
  generalize hw2 : World.setCell _ _ _ = w2 at hI1 ⊢
  refine ms_seq (ms_rgn (mo_move t1 (mo_add rfl (by omega) (by unfold mB at b0; omega) (mo_asg rfl (mo_nil ?_)))))
  rw [x0]
  obtain ⟨u1, c1, f1, hI2⟩ := hI1.int' hd hnd q1
  refine ms_seq (ms_rgn (mo_move t0 (mo_move t5 (mo_move rfl (mo_ia tbOk rfl rfl rfl hj (mo_fa tbOk rfl rfl rfl (mo_fa tbOk rfl rfl rfl (mo_store tbOk rfl rfl rfl rfl c1 f1 rfl (mo_nil ?_)))))))))
  generalize hw3 : World.setCell _ _ _ = w3 at hI2 ⊢
  refine ms_seq (ms_rgn (mo_move rfl (mo_add rfl (by omega) (by unfold mB at b1; omega) (mo_asg rfl (mo_nil ?_)))))
  rw [x1]
  have k2 := m_laws_markIntSS (((l[j]).2).2) (k + (cntP (l.flatMap c114_oo) (j * 3 + 2) : Int)) n2 b2
  obtain ⟨u2, c2, d2⟩ := hI2.own' hd hnd hbs q2 k2
  have d2 : Calls Tryz.prog 130 #[u2, .int .i64 (k + (cntP (l.flatMap c114_oo) (j * 3 + 2) : Int))] w3 (fun e' w' => e' = .returned (.int .i64 (k + (cntP (l.flatMap c114_oo) (j * 3 + 3) : Int))) ∧ Inv Tryz.prog St mtx 114 l.length (l.flatMap c114_oo) k (.slice (some ⟨g, 0, none⟩) l.length cap) bs w0 (j * 3 + 3) w') := d2
  refine ms_rgn (mo_move t0 (mo_move t5 (mo_ia tbOk rfl rfl rfl hj (mo_fa tbOk rfl rfl rfl (mo_fa tbOk rfl rfl rfl (mo_load tbOk rfl rfl rfl c2 (mo_move rfl (mo_call (lit_hb lit130) (args2 rfl rfl) (d2.mono ?_)))))))))
  rintro e2 w4 ⟨rfl, hI3⟩
  refine ⟨_, rfl, mo_asg rfl (mo_nil ?_)⟩
  exact ⟨rfl, t0, rfl, t5, hI3⟩
theorem m_laws_markTableS (l : List Y113) (k : Int) (h0 : 0 ≤ k) (h1 : k + cntVs (l.flatMap c114_oo) ≤ mB) : MarkAt Tryz.prog 94 (.own 114 l.length (l.flatMap c114_oo)) k (.own 114 l.length (mkVs mtx (l.flatMap c114_oo) k)) (k + cntVs (l.flatMap c114_oo)) :=
  mark_slice tbOk (r := 36) (ty := 75) (it := 3) (bt := 4) lit94 (by decide) rfl (flat_len zc114_oo l) (by decide) (r_laws_markTableS l k h0 h1 rfl)
def ce77 (x : List Y113) : Nat := (ce75 x)
def me77 (x : List Y113) (k : Int) : List Y113 := (me75 x (k))
theorem hm77 (x : List Y113) (k : Int) : mkVs mtx (c77_ooo x) k = c77_ooo (me77 x k) := by
  have h : mkVs mtx [oL 114 c114_oo x] k = _ := (mkc (mk_own hm114 hc114 _ _) (cnt_own hc114 _) (show mkVs mtx [] _ = [] from rfl))
  refine h.trans ?_
  simp only [c77_ooo, me77, ce77, ce75, me75, Int.add_assoc, ← Int.natCast_add, Nat.add_assoc, Int.natCast_add]
theorem hc77 (x : List Y113) : cntVs (c77_ooo x) = ce77 x := by
  have h : cntVs [oL 114 c114_oo x] = _ := (cntc (cnt_own hc114 _) (show cntVs [] = 0 from rfl))
  refine (show cntVs (c77_ooo x) = _ from h).trans ?_
  simp only [ce77, ce75, me75, Nat.add_assoc, Nat.add_zero]
theorem dp77 (x : List Y113) : deepL (c77_ooo x) = true := (dpc (dpo dp114 _) rfl)
def ce24 (x : List (List Y113)) : Nat := cntL ce77 x
def me24 (x : List (List Y113)) (k : Int) : List (List Y113) := mkL ce77 me77 x k
theorem r_laws_markDatabaseS (l : List (List Y113)) (k : Int) (h0 : 0 ≤ k) (h1 : k + cntVs (l.flatMap c77_ooo) ≤ mB) {body : LC} (hb : body = (.rgn [] [LL 12 (.move (.tmp 0)) 24,
      LL 13 (.move (.tmp 5)) 3,
      LL 14 (.indexAddr 24 (.tmp 12) (.tmp 13)) 0,
      LL 15 (.fieldAddr 77 (.tmp 14) 0) 0,
      LL 16 (.load 75 (.tmp 15)) 75,
      LL 17 (.move (.tmp 1)) 3,
      LL 18 (.call { callee := (.value (.func 94)), args := #[(.tmp 16), (.tmp 17)], argTypes := #[75, 3] }) 3,
      LL 1 (.assign (.tmp 18)) 3])) : Round Tryz.prog 20 [] mtx 77 1 body l.length (l.flatMap c77_ooo) k := by
  subst hb
  intro St w0 bs g cap j w T hnd hbs hj hI0 t0 t1 t5
  have hd : deepL (l.flatMap c77_ooo) = true := deep_flat dp77 l
  have hI0 : Inv Tryz.prog St mtx 77 l.length (l.flatMap c77_ooo) k (.slice (some ⟨g, 0, none⟩) l.length cap) bs w0 (j * 1 + 0) w := hI0
  have t1 : T 1 = some (.int .i64 (k + (cntP (l.flatMap c77_ooo) (j * 1 + 0) : Int))) := t1
  have q0 : (l.flatMap c77_ooo)[j * 1 + 0]? = some (oL 114 c114_oo (l[j])) := (flat_at zc77_ooo hj (by decide)).trans rfl
  have b0 := cnt_bd q0 h1
  have n0 : 0 ≤ k + (cntP (l.flatMap c77_ooo) (j * 1 + 0) : Int) := cnt_nn h0
  have k0 := m_laws_markTableS (l[j]) (k + (cntP (l.flatMap c77_ooo) (j * 1 + 0) : Int)) n0 b0
  obtain ⟨u0, c0, d0⟩ := hI0.own' hd hnd hbs q0 k0
  have d0 : Calls Tryz.prog 94 #[u0, .int .i64 (k + (cntP (l.flatMap c77_ooo) (j * 1 + 0) : Int))] w (fun e' w' => e' = .returned (.int .i64 (k + (cntP (l.flatMap c77_ooo) (j * 1 + 1) : Int))) ∧ Inv Tryz.prog St mtx 77 l.length (l.flatMap c77_ooo) k (.slice (some ⟨g, 0, none⟩) l.length cap) bs w0 (j * 1 + 1) w') := d0
  refine ms_rgn (mo_move t0 (mo_move t5 (mo_ia tbOk rfl rfl rfl hj (mo_fa tbOk rfl rfl rfl (mo_load tbOk rfl rfl rfl c0 (mo_move t1 (mo_call (lit_hb lit94) (args2 rfl rfl) (d0.mono ?_))))))))
  rintro e0 w1 ⟨rfl, hI1⟩
  refine ⟨_, rfl, mo_asg rfl (mo_nil ?_)⟩
  exact ⟨rfl, t0, rfl, t5, hI1⟩
theorem m_laws_markDatabaseS (l : List (List Y113)) (k : Int) (h0 : 0 ≤ k) (h1 : k + cntVs (l.flatMap c77_ooo) ≤ mB) : MarkAt Tryz.prog 56 (.own 77 l.length (l.flatMap c77_ooo)) k (.own 77 l.length (mkVs mtx (l.flatMap c77_ooo) k)) (k + cntVs (l.flatMap c77_ooo)) :=
  mark_slice tbOk (r := 19) (ty := 24) (it := 3) (bt := 4) lit56 (by decide) rfl (flat_len zc77_ooo l) (by decide) (r_laws_markDatabaseS l k h0 h1 rfl)
theorem dp26 (x : Y25) : deepL (c26_oooo x) = true := (dpc rfl (dpc (dpo dp77 _) rfl))
def cs26 (x : Y25) : Nat := ce24 x.2
def ms26 (x : Y25) (k : Int) : Y25 := (x.1, me24 x.2 (k))
theorem hs26 (x : Y25) (k : Int) : mkA mtx (c26_oooo x) k = c26_oooo (ms26 x k) := by
  have h : mkA mtx [nI x.1, oL 77 c77_ooo x.2] k = _ := (mka (fun _ _ => rfl) (mkao hm77 hc77 _ (show mkA mtx [] _ = [] from rfl)))
  refine h.trans ?_
  simp only [c26_oooo, ms26, cs26, ce24, me24, Int.add_assoc, ← Int.natCast_add, Nat.add_assoc, Int.natCast_add]
theorem hz26 (x : Y25) : cntA (c26_oooo x) = cs26 x := by
  have h : cntA [nI x.1, oL 77 c77_ooo x.2] = _ := (cnta (fun _ => rfl) (cntao hc77 _ (show cntA [] = 0 from rfl)))
  refine (show cntA (c26_oooo x) = _ from h).trans ?_
  simp only [cs26, ce24, me24, Nat.add_assoc, Nat.add_zero, Nat.zero_add]
theorem m_laws_markHistory (x : Y25) (k : Int) (h0 : 0 ≤ k) (h1 : k + cntA (c26_oooo x) ≤ mB) : MarkAt Tryz.prog 24 (.agg (c26_oooo x)) k (.agg (mkA mtx (c26_oooo x) k)) (k + cntA (c26_oooo x)) := by
  refine ⟨lit_hb lit24, fun w0 St v bs hO hnd hbs => ?_⟩
  obtain ⟨us, rfl, hO⟩ := hO
  refine calls_ms (rs := []) (vs := [.agg us.toArray, .int .i64 k]) lit24 (Nat.le_of_ble_eq_true rfl) ?_
  have hd : deepL (c26_oooo x) = true := dp26 x
  have hI0 := InvA.start (mt := mtx) (k := k) (t := 26) hO hd hbs
  refine ms_seq (ms_rgn (mo_box rfl (mo_asgc (mo_nil ?_))))
  have hI1 := hI0.skip (c := nI x.1) rfl (fun _ => rfl)
  have q1 : (c26_oooo x)[1]? = some (oL 77 c77_ooo x.2) := rfl
  obtain ⟨u1, c1, d1⟩ := hI1.own hd hnd hbs q1 (m_laws_markDatabaseS x.2 (k + (cntA ((c26_oooo x).take 1) : Int)) (by omega) (cntA_bd q1 h1))
  refine ms_seq (ms_rgn (mo_fa tbOk rfl rfl rfl (mo_load tbOk rfl rfl rfl c1 (mo_move (t1_0 (k := k) (n := cntA ((c26_oooo x).take 1)) rfl) (mo_call (lit_hb lit56) (args2 rfl rfl) (d1.mono ?_))))))
  rintro e1 w1 ⟨rfl, hI2⟩
  refine ⟨_, rfl, mo_asg rfl (mo_nil ?_)⟩
  obtain ⟨hx, hy⟩ := hI2.done (Nat.le_of_ble_eq_true rfl)
  refine ms_seq (ms_rgn (mo_move rfl (mo_asg rfl (mo_nil ?_))))
  exact ms_ret ⟨.inl rfl, _, rfl, rfl, ⟨us, rfl, hx⟩, hy⟩
def laws_markHistory (x : Y25) (k : Int) : Option (Y25 × Int) := chk (0 ≤ k ∧ k + (cs26 x : Int) ≤ mB) (some (ms26 x k, k + cs26 x))
theorem laws_markHistory_e {x : Y25} {k : Int} (h0 : 0 ≤ k) (h1 : k + (cs26 x : Int) ≤ mB) : laws_markHistory x k = some (ms26 x k, k + cs26 x) := chk_pos ⟨h0, h1⟩
theorem laws_markHistory_m {x : Y25} {k : Int} {r : Y25 × Int} (h : laws_markHistory x k = some r) : MarkAt Tryz.prog 24 (.agg (c26_oooo x)) k (.agg (c26_oooo r.1)) r.2 := by
  obtain ⟨⟨h0, h1⟩, h⟩ := chk_some h
  have hr := Option.some.inj h
  subst hr
  have e := m_laws_markHistory x k h0 (by rw [hz26]; exact h1)
  rw [hs26, hz26] at e
  exact e
def ce109 (x : Y108) : Nat := (1) + (ce27 x.2)
def me109 (x : Y108) (k : Int) : Y108 := (mtx (k), me27 x.2 (k + ((1 : Nat) : Int)))
theorem hm109 (x : Y108) (k : Int) : mkVs mtx (c109_o x) k = c109_o (me109 x k) := by
  have h : mkVs mtx [.str x.1, oL 3 ci64 x.2] k = _ := (mkc (n := 1) (c' := V.str _) rfl rfl (mkc (mk_own hmI hcI _ _) (cnt_own hcI _) (show mkVs mtx [] _ = [] from rfl)))
  refine h.trans ?_
  simp only [c109_o, me109, ce109, ce27, me27, Int.add_assoc, ← Int.natCast_add, Nat.add_assoc, Int.natCast_add]
theorem hc109 (x : Y108) : cntVs (c109_o x) = ce109 x := by
  have h : cntVs [.str x.1, oL 3 ci64 x.2] = _ := (cntc (n := 1) rfl (cntc (cnt_own hcI _) (show cntVs [] = 0 from rfl)))
  refine (show cntVs (c109_o x) = _ from h).trans ?_
  simp only [ce109, ce27, me27, Nat.add_assoc, Nat.add_zero]
theorem dp109 (x : Y108) : deepL (c109_o x) = true := (dpc rfl (dpc (dpo (fun _ => rfl) _) rfl))
def ce28 (x : List Y108) : Nat := cntL ce109 x
def me28 (x : List Y108) (k : Int) : List Y108 := mkL ce109 me109 x k
theorem r_laws_markAtomS (l : List Y108) (k : Int) (h0 : 0 ≤ k) (h1 : k + cntVs (l.flatMap c109_o) ≤ mB) {body : LC} (hb : body = (.seq (.rgn [] [LL 12 (.move (.tmp 0)) 28,
      LL 13 (.move (.tmp 5)) 3,
      LL 14 (.move (.tmp 1)) 3,
      LL 15 (.call { callee := (.value (.func 129)), args := #[(.tmp 14)], argTypes := #[3] }) 9,
      LL 16 (.indexAddr 28 (.tmp 12) (.tmp 13)) 0,
      LL 17 (.fieldAddr 109 (.tmp 16) 0) 0,
      ⟨none, (.store 9 (.tmp 17) (.tmp 15)), 0, none⟩])
    (.seq (.rgn [] [LL 18 (.move (.tmp 1)) 3,
      LL 19 (.binOp .add 3 (.tmp 18) (.const (.int .i64 1)) 3) 3,
      LL 1 (.assign (.tmp 19)) 3])
    (.rgn [] [LL 20 (.move (.tmp 0)) 28,
      LL 21 (.move (.tmp 5)) 3,
      LL 22 (.indexAddr 28 (.tmp 20) (.tmp 21)) 0,
      LL 23 (.fieldAddr 109 (.tmp 22) 1) 0,
      LL 24 (.load 27 (.tmp 23)) 27,
      LL 25 (.move (.tmp 1)) 3,
      LL 26 (.call { callee := (.value (.func 26)), args := #[(.tmp 24), (.tmp 25)], argTypes := #[27, 3] }) 3,
      LL 1 (.assign (.tmp 26)) 3])))) : Round Tryz.prog 28 [] mtx 109 2 body l.length (l.flatMap c109_o) k := by
  subst hb
  intro St w0 bs g cap j w T hnd hbs hj hI0 t0 t1 t5
  have hd : deepL (l.flatMap c109_o) = true := deep_flat dp109 l
  have hI0 : Inv Tryz.prog St mtx 109 l.length (l.flatMap c109_o) k (.slice (some ⟨g, 0, none⟩) l.length cap) bs w0 (j * 2 + 0) w := hI0
  have t1 : T 1 = some (.int .i64 (k + (cntP (l.flatMap c109_o) (j * 2 + 0) : Int))) := t1
  have q0 : (l.flatMap c109_o)[j * 2 + 0]? = some (.str ((l[j]).1)) := (flat_at zc109_o hj (by decide)).trans rfl
  have b0 := cnt_bd q0 h1
  rw [show cntV (.str ((l[j]).1)) = 1 from rfl] at b0
  have x0 : k + (cntP (l.flatMap c109_o) (j * 2 + 0) : Int) + 1 = k + (cntP (l.flatMap c109_o) (j * 2 + 1) : Int) := cnt_s1 (k := k) q0 rfl
  have n0 : 0 ≤ k + (cntP (l.flatMap c109_o) (j * 2 + 0) : Int) := cnt_nn h0
  have q1 : (l.flatMap c109_o)[j * 2 + 1]? = some (oL 3 ci64 ((l[j]).2)) := (flat_at zc109_o hj (by decide)).trans rfl
  have b1 := cnt_bd q1 h1
  have n1 : 0 ≤ k + (cntP (l.flatMap c109_o) (j * 2 + 1) : Int) := cnt_nn h0
  refine ms_seq (ms_rgn (mo_move t0 (mo_move t5 (mo_move t1 (mo_call mtx_hb (args1 rfl) ((mtx_calls n0 (by omega) w).mono ?_))))))
  rintro e0 w1 ⟨rfl, z0⟩
  have hI0 := hI0.grow hd hbs z0
  obtain ⟨u0, c0, f0, hI1⟩ := hI0.str' hd hnd q0 (mtx_len n0 (by omega))
  refine ⟨_, rfl, mo_ia tbOk rfl rfl rfl hj (mo_fa tbOk rfl rfl rfl (mo_store tbOk rfl rfl rfl rfl c0 f0 rfl (mo_nil ?_)))⟩
  generalize hw2 : World.setCell _ _ _ = w2 at hI1 ⊢
  refine ms_seq (ms_rgn (mo_move t1 (mo_add rfl (by omega) (by unfold mB at b0; omega) (mo_asg rfl (mo_nil ?_)))))
  rw [x0]
  have k1 := m_laws_markIntS ((l[j]).2) (k + (cntP (l.flatMap c109_o) (j * 2 + 1) : Int)) n1 b1
  obtain ⟨u1, c1, d1⟩ := hI1.own' hd hnd hbs q1 k1
  have d1 : Calls Tryz.prog 26 #[u1, .int .i64 (k + (cntP (l.flatMap c109_o) (j * 2 + 1) : Int))] w2 (fun e' w' => e' = .returned (.int .i64 (k + (cntP (l.flatMap c109_o) (j * 2 + 2) : Int))) ∧ Inv Tryz.prog St mtx 109 l.length (l.flatMap c109_o) k (.slice (some ⟨g, 0, none⟩) l.length cap) bs w0 (j * 2 + 2) w') := d1
  refine ms_rgn (mo_move t0 (mo_move t5 (mo_ia tbOk rfl rfl rfl hj (mo_fa tbOk rfl rfl rfl (mo_load tbOk rfl rfl rfl c1 (mo_move rfl (mo_call (lit_hb lit26) (args2 rfl rfl) (d1.mono ?_))))))))
  rintro e1 w3 ⟨rfl, hI2⟩
  refine ⟨_, rfl, mo_asg rfl (mo_nil ?_)⟩
  exact ⟨rfl, t0, rfl, t5, hI2⟩
theorem m_laws_markAtomS (l : List Y108) (k : Int) (h0 : 0 ≤ k) (h1 : k + cntVs (l.flatMap c109_o) ≤ mB) : MarkAt Tryz.prog 95 (.own 109 l.length (l.flatMap c109_o)) k (.own 109 l.length (mkVs mtx (l.flatMap c109_o) k)) (k + cntVs (l.flatMap c109_o)) :=
  mark_slice tbOk (r := 27) (ty := 28) (it := 3) (bt := 4) lit95 (by decide) rfl (flat_len zc109_o l) (by decide) (r_laws_markAtomS l k h0 h1 rfl)
theorem dp30 (x : Y29) : deepL (c30_ooo x) = true := (dpc rfl (dpc (dpo dp109 _) (dpc (dpo (fun _ => rfl) _) rfl)))
def cs30 (x : Y29) : Nat := ce28 x.2.1 + ce27 x.2.2
def ms30 (x : Y29) (k : Int) : Y29 := (x.1, me28 x.2.1 (k), me27 x.2.2 (k + ((ce28 x.2.1 : Nat) : Int)))
theorem m_laws_markQuery (x : Y29) (k : Int) (h0 : 0 ≤ k) (h1 : k + cntA (c30_ooo x) ≤ mB) : MarkAt Tryz.prog 57 (.agg (c30_ooo x)) k (.agg (mkA mtx (c30_ooo x) k)) (k + cntA (c30_ooo x)) := by
  refine ⟨lit_hb lit57, fun w0 St v bs hO hnd hbs => ?_⟩
  obtain ⟨us, rfl, hO⟩ := hO
  refine calls_ms (rs := []) (vs := [.agg us.toArray, .int .i64 k]) lit57 (Nat.le_of_ble_eq_true rfl) ?_
  have hd : deepL (c30_ooo x) = true := dp30 x
  have hI0 := InvA.start (mt := mtx) (k := k) (t := 30) hO hd hbs
  refine ms_seq (ms_rgn (mo_box rfl (mo_asgc (mo_nil ?_))))
  have hI1 := hI0.skip (c := nI x.1) rfl (fun _ => rfl)
  have q1 : (c30_ooo x)[1]? = some (oL 109 c109_o x.2.1) := rfl
  obtain ⟨u1, c1, d1⟩ := hI1.own hd hnd hbs q1 (m_laws_markAtomS x.2.1 (k + (cntA ((c30_ooo x).take 1) : Int)) (by omega) (cntA_bd q1 h1))
  refine ms_seq (ms_rgn (mo_fa tbOk rfl rfl rfl (mo_load tbOk rfl rfl rfl c1 (mo_move (t1_0 (k := k) (n := cntA ((c30_ooo x).take 1)) rfl) (mo_call (lit_hb lit95) (args2 rfl rfl) (d1.mono ?_))))))
  rintro e1 w1 ⟨rfl, hI2⟩
  refine ⟨_, rfl, mo_asg rfl (mo_nil ?_)⟩
  have q2 : (c30_ooo x)[2]? = some (oL 3 ci64 x.2.2) := rfl
  obtain ⟨u2, c2, d2⟩ := hI2.own hd hnd hbs q2 (m_laws_markIntS x.2.2 (k + (cntA ((c30_ooo x).take 2) : Int)) (by omega) (cntA_bd q2 h1))
  refine ms_seq (ms_rgn (mo_fa tbOk rfl rfl rfl (mo_load tbOk rfl rfl rfl c2 (mo_move rfl (mo_call (lit_hb lit26) (args2 rfl rfl) (d2.mono ?_))))))
  rintro e2 w2 ⟨rfl, hI3⟩
  refine ⟨_, rfl, mo_asg rfl (mo_nil ?_)⟩
  obtain ⟨hx, hy⟩ := hI3.done (Nat.le_of_ble_eq_true rfl)
  refine ms_seq (ms_rgn (mo_move rfl (mo_asg rfl (mo_nil ?_))))
  exact ms_ret ⟨.inl rfl, _, rfl, rfl, ⟨us, rfl, hx⟩, hy⟩
theorem dp32 (x : Y31) : deepL (c32_ooooo x) = true := (dpc rfl (dpc (dpo (fun _ => rfl) _) (dpc (dpo (fun _ => rfl) _) (dpc rfl (dpc (dpo dp109 _) (dpc (dpo (fun _ => rfl) _) rfl))))))
def cs32 (x : Y31) : Nat := ce27 x.2.1 + ce27 x.2.2.1 + cs30 x.2.2.2
def ms32 (x : Y31) (k : Int) : Y31 := (x.1, me27 x.2.1 (k), me27 x.2.2.1 (k + ((ce27 x.2.1 : Nat) : Int)), ms30 x.2.2.2 (k + ((ce27 x.2.1 : Nat) : Int) + ((ce27 x.2.2.1 : Nat) : Int)))
theorem hs32 (x : Y31) (k : Int) : mkA mtx (c32_ooooo x) k = c32_ooooo (ms32 x k) := by
  have h : mkA mtx [nI x.1, oL 3 ci64 x.2.1, oL 3 ci64 x.2.2.1, nI x.2.2.2.1, oL 109 c109_o x.2.2.2.2.1, oL 3 ci64 x.2.2.2.2.2] k = _ := (mka (fun _ _ => rfl) (mkao hmI hcI _ (mkao hmI hcI _ (mka (fun _ _ => rfl) (mkao hm109 hc109 _ (mkao hmI hcI _ (show mkA mtx [] _ = [] from rfl)))))))
  refine h.trans ?_
  simp only [c32_ooooo, ms32, cs32, c30_ooo, ce27, ce28, cs30, me27, me28, ms30, Int.add_assoc, ← Int.natCast_add, Nat.add_assoc, Int.natCast_add]
theorem hz32 (x : Y31) : cntA (c32_ooooo x) = cs32 x := by
  have h : cntA [nI x.1, oL 3 ci64 x.2.1, oL 3 ci64 x.2.2.1, nI x.2.2.2.1, oL 109 c109_o x.2.2.2.2.1, oL 3 ci64 x.2.2.2.2.2] = _ := (cnta (fun _ => rfl) (cntao hcI _ (cntao hcI _ (cnta (fun _ => rfl) (cntao hc109 _ (cntao hcI _ (show cntA [] = 0 from rfl)))))))
  refine (show cntA (c32_ooooo x) = _ from h).trans ?_
  simp only [cs32, c30_ooo, ce27, ce28, cs30, me27, me28, ms30, Nat.add_assoc, Nat.add_zero, Nat.zero_add]
theorem m_laws_markCursor (x : Y31) (k : Int) (h0 : 0 ≤ k) (h1 : k + cntA (c32_ooooo x) ≤ mB) : MarkAt Tryz.prog 25 (.agg (c32_ooooo x)) k (.agg (mkA mtx (c32_ooooo x) k)) (k + cntA (c32_ooooo x)) := by
  refine ⟨lit_hb lit25, fun w0 St v bs hO hnd hbs => ?_⟩
  obtain ⟨us, rfl, hO⟩ := hO
  refine calls_ms (rs := []) (vs := [.agg us.toArray, .int .i64 k]) lit25 (Nat.le_of_ble_eq_true rfl) ?_
  have hd : deepL (c32_ooooo x) = true := dp32 x
  have hI0 := InvA.start (mt := mtx) (k := k) (t := 32) hO hd hbs
  refine ms_seq (ms_rgn (mo_box rfl (mo_asgc (mo_nil ?_))))
  have hI1 := hI0.skip (c := nI x.1) rfl (fun _ => rfl)
  have q1 : (c32_ooooo x)[1]? = some (oL 3 ci64 x.2.1) := rfl
  obtain ⟨u1, c1, d1⟩ := hI1.own hd hnd hbs q1 (m_laws_markIntS x.2.1 (k + (cntA ((c32_ooooo x).take 1) : Int)) (by omega) (cntA_bd q1 h1))
  refine ms_seq (ms_rgn (mo_fa tbOk rfl rfl rfl (mo_load tbOk rfl rfl rfl c1 (mo_move (t1_0 (k := k) (n := cntA ((c32_ooooo x).take 1)) rfl) (mo_call (lit_hb lit26) (args2 rfl rfl) (d1.mono ?_))))))
  rintro e1 w1 ⟨rfl, hI2⟩
  refine ⟨_, rfl, mo_asg rfl (mo_nil ?_)⟩
  have q2 : (c32_ooooo x)[2]? = some (oL 3 ci64 x.2.2.1) := rfl
  obtain ⟨u2, c2, d2⟩ := hI2.own hd hnd hbs q2 (m_laws_markIntS x.2.2.1 (k + (cntA ((c32_ooooo x).take 2) : Int)) (by omega) (cntA_bd q2 h1))
  refine ms_seq (ms_rgn (mo_fa tbOk rfl rfl rfl (mo_load tbOk rfl rfl rfl c2 (mo_move rfl (mo_call (lit_hb lit26) (args2 rfl rfl) (d2.mono ?_))))))
  rintro e2 w2 ⟨rfl, hI3⟩
  refine ⟨_, rfl, mo_asg rfl (mo_nil ?_)⟩
  have q3 : ((c32_ooooo x).drop 3).take 3 = c30_ooo x.2.2.2 := rfl
  obtain ⟨u3, l3, c3, d3⟩ := hI3.agg hd hnd hbs (Nat.le_of_ble_eq_true rfl) q3 (m_laws_markQuery x.2.2.2 (k + (cntA ((c32_ooooo x).take 3) : Int)) (by omega) (cntA_bdp q3 h1))
  refine ms_seq (ms_rgn (mo_fa tbOk rfl rfl rfl (mo_loadA tbOk rfl l3 rfl c3 (mo_move rfl (mo_call (lit_hb lit57) (args2 rfl rfl) (d3.mono ?_))))))
  rintro e3 w3 ⟨rfl, hI6⟩
  refine ⟨_, rfl, mo_asg rfl (mo_nil ?_)⟩
  obtain ⟨hx, hy⟩ := hI6.done (Nat.le_of_ble_eq_true rfl)
  refine ms_seq (ms_rgn (mo_move rfl (mo_asg rfl (mo_nil ?_))))
  exact ms_ret ⟨.inl rfl, _, rfl, rfl, ⟨us, rfl, hx⟩, hy⟩
def laws_markCursor (x : Y31) (k : Int) : Option (Y31 × Int) := chk (0 ≤ k ∧ k + (cs32 x : Int) ≤ mB) (some (ms32 x k, k + cs32 x))
theorem laws_markCursor_e {x : Y31} {k : Int} (h0 : 0 ≤ k) (h1 : k + (cs32 x : Int) ≤ mB) : laws_markCursor x k = some (ms32 x k, k + cs32 x) := chk_pos ⟨h0, h1⟩
theorem laws_markCursor_m {x : Y31} {k : Int} {r : Y31 × Int} (h : laws_markCursor x k = some r) : MarkAt Tryz.prog 25 (.agg (c32_ooooo x)) k (.agg (c32_ooooo r.1)) r.2 := by
  obtain ⟨⟨h0, h1⟩, h⟩ := chk_some h
  have hr := Option.some.inj h
  subst hr
  have e := m_laws_markCursor x k h0 (by rw [hz32]; exact h1)
  rw [hs32, hz32] at e
  exact e
end Go.Proofs.YtlknpohjnpnodaaGreat
