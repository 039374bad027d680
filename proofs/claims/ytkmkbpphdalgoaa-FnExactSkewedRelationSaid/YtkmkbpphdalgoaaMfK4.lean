/-
  What the functions that mark do: contracts and typed functions, printed by genmark.py. No conditions.
-/
import Derived.Test.YtkmkbpphdalgoaaMxK4
namespace Go.Proofs.Ytkmkbpphdalgoaa
open Go.RowKit
set_option linter.unusedVariables false
set_option linter.unusedSimpArgs false
set_option maxRecDepth 100000
def c30_d (x : List Int) : List V := [.dat x.length (x.flatMap ci64)]
theorem zc30_d (x : List Int) : (c30_d x).length = 1 := rfl
theorem ec30_d (x : List Int) : erL (c30_d x) = c30_d x := (erc (erD eci64 _) rfl)
def c30_o (x : List Int) : List V := [.own 3 x.length (x.flatMap ci64)]
theorem zc30_o (x : List Int) : (c30_o x).length = 1 := rfl
theorem ec30_o (x : List Int) : erL (c30_o x) = c30_d x := (erc (erO eci64 _) rfl)
def c22_dd (x : List (List Int)) : List V := [.dat x.length (x.flatMap c30_d)]
theorem zc22_dd (x : List (List Int)) : (c22_dd x).length = 1 := rfl
theorem ec22_dd (x : List (List Int)) : erL (c22_dd x) = c22_dd x := (erc (erD ec30_d _) rfl)
def c22_oo (x : List (List Int)) : List V := [.own 30 x.length (x.flatMap c30_o)]
theorem zc22_oo (x : List (List Int)) : (c22_oo x).length = 1 := rfl
theorem ec22_oo (x : List (List Int)) : erL (c22_oo x) = c22_dd x := (erc (erO ec30_o _) rfl)
def c24_dd (x : Int × (List (List Int))) : List V := [.int .i64 x.1, .dat x.2.length (x.2.flatMap c30_d)]
theorem zc24_dd (x : Int × (List (List Int))) : (c24_dd x).length = 2 := rfl
theorem ec24_dd (x : Int × (List (List Int))) : erL (c24_dd x) = c24_dd x := (erc rfl (erc (erD ec30_d _) rfl))
def c24_oo (x : Int × (List (List Int))) : List V := [.int .i64 x.1, .own 30 x.2.length (x.2.flatMap c30_o)]
theorem zc24_oo (x : Int × (List (List Int))) : (c24_oo x).length = 2 := rfl
theorem ec24_oo (x : Int × (List (List Int))) : erL (c24_oo x) = c24_dd x := (erc rfl (erc (erO ec30_o _) rfl))
def ce30 (x : List Int) : Nat := cntL oneI x
def me30 (x : List Int) (k : Int) : List Int := mkL oneI markI x k
theorem hm30 (x : List Int) (k : Int) : mkVs mtx (c30_o x) k = c30_o (me30 x k) := by
  unfold c30_o me30
  exact mkc (mk_own hmI hcI x k) (cnt_own hcI x) rfl
theorem hc30 (x : List Int) : cntVs (c30_o x) = ce30 x := by
  unfold c30_o ce30
  exact cntc (cnt_own hcI x) rfl
theorem dp30 (x : List Int) : deepL (c30_o x) = true := dpc (dpo (fun _ => rfl) x) rfl
theorem r_laws_markIntS (l : List Int) (k : Int) (h0 : 0 ≤ k) (h1 : k + cntVs (l.flatMap ci64) ≤ mB) {body : LC} (hb : body = (.seq (.rgn [] [⟨some 12, (.move (.tmp 0)), 30, none⟩,
      ⟨some 13, (.move (.tmp 5)), 3, none⟩,
      ⟨some 14, (.move (.tmp 1)), 3, none⟩,
      ⟨some 15, (.indexAddr 30 (.tmp 12) (.tmp 13)), 0, none⟩,
      ⟨none, (.store 3 (.tmp 15) (.tmp 14)), 0, none⟩])
    (.rgn [] [⟨some 16, (.move (.tmp 1)), 3, none⟩,
      ⟨some 17, (.binOp .add 3 (.tmp 16) (.const (.int .i64 1)) 3), 3, none⟩,
      ⟨some 1, (.assign (.tmp 17)), 3, none⟩]))) : Round Try.prog 19 [] mtx 3 1 body l.length (l.flatMap ci64) k := by
  subst hb
  intro St w0 bs g cap j w T hnd hbs hj hI0 t0 t1 t5
  have hd : deepL (l.flatMap ci64) = true := deep_flat (fun _ => rfl) l
  have hI0 : Inv Try.prog St mtx 3 l.length (l.flatMap ci64) k (.slice (some ⟨g, 0, none⟩) l.length cap) bs w0 (j * 1 + 0) w := hI0
  have t1 : T 1 = some (.int .i64 (k + (cntP (l.flatMap ci64) (j * 1 + 0) : Int))) := t1
  have q0 : (l.flatMap ci64)[j * 1 + 0]? = some (.int .i64 (l[j])) := (flat_at zci64 hj (by decide)).trans rfl
  have b0 := cnt_bd q0 h1
  rw [show cntV (.int .i64 (l[j])) = 1 from rfl] at b0
  have x0 : k + (cntP (l.flatMap ci64) (j * 1 + 0) : Int) + 1 = k + (cntP (l.flatMap ci64) (j * 1 + 1) : Int) := cnt_s1 (k := k) q0 rfl
  have n0 : 0 ≤ k + (cntP (l.flatMap ci64) (j * 1 + 0) : Int) := cnt_nn h0
  obtain ⟨u0, c0, f0, hI1⟩ := hI0.int' hd hnd q0
  refine ms_seq (ms_rgn (mo_move t0 (mo_move t5 (mo_move t1 (mo_ia tbOk rfl rfl rfl hj (mo_store tbOk rfl rfl rfl rfl c0 f0 rfl (mo_nil ?_)))))))
  generalize hw1 : World.setCell _ _ _ = w1 at hI1 ⊢
  refine ms_rgn (mo_move t1 (mo_add rfl (by omega) (by unfold mB at b0; omega) (mo_asg rfl (mo_nil ?_))))
  rw [x0]
  exact ⟨rfl, t0, rfl, t5, hI1⟩
theorem m_laws_markIntS (l : List Int) (k : Int) (h0 : 0 ≤ k) (h1 : k + cntVs (l.flatMap ci64) ≤ mB) : MarkAt Try.prog 57 (.own 3 l.length (l.flatMap ci64)) k (.own 3 l.length (mkVs mtx (l.flatMap ci64) k)) (k + cntVs (l.flatMap ci64)) :=
  mark_slice tbOk (r := 18) (ty := 30) (it := 3) (bt := 4) lit57 (by decide) rfl (flat_len zci64 l) (by decide) (r_laws_markIntS l k h0 h1 rfl)
def laws_markIntS (x : List Int) (k : Int) : Option ((List Int) × Int) := chk (0 ≤ k ∧ k + (ce30 x : Int) ≤ mB) (some (me30 x k, k + ce30 x))
theorem laws_markIntS_e {x : List Int} {k : Int} (h0 : 0 ≤ k) (h1 : k + (ce30 x : Int) ≤ mB) : laws_markIntS x k = some (me30 x k, k + ce30 x) := chk_pos ⟨h0, h1⟩
theorem laws_markIntS_m {x : List Int} {k : Int} {r : (List Int) × Int} (h : laws_markIntS x k = some r) : MarkAt Try.prog 57 (.own 3 x.length (x.flatMap ci64)) k (.own 3 r.1.length (r.1.flatMap ci64)) r.2 := by
  obtain ⟨⟨h0, h1⟩, h⟩ := chk_some h
  have hr := Option.some.inj h
  subst hr
  have hx := cntVs_flat (f := ci64) (cnt := oneI) hcI x
  have e := m_laws_markIntS x k h0 (by rw [hx]; exact h1)
  rw [mkVs_flat (f := ci64) (cnt := oneI) (mk := markI) hmI hcI, hx] at e
  show MarkAt Try.prog 57 _ k (.own 3 (mkL oneI markI x k).length ((mkL oneI markI x k).flatMap ci64)) (k + (cntL oneI x : Int))
  rw [mkL_length]
  exact e
def ce22 (x : List (List Int)) : Nat := cntL ce30 x
def me22 (x : List (List Int)) (k : Int) : List (List Int) := mkL ce30 me30 x k
theorem hm22 (x : List (List Int)) (k : Int) : mkVs mtx (c22_oo x) k = c22_oo (me22 x k) := by
  unfold c22_oo me22
  exact mkc (mk_own hm30 hc30 x k) (cnt_own hc30 x) rfl
theorem hc22 (x : List (List Int)) : cntVs (c22_oo x) = ce22 x := by
  unfold c22_oo ce22
  exact cntc (cnt_own hc30 x) rfl
theorem dp22 (x : List (List Int)) : deepL (c22_oo x) = true := dpc (dpo dp30 x) rfl
theorem r_laws_markIntSS (l : List (List Int)) (k : Int) (h0 : 0 ≤ k) (h1 : k + cntVs (l.flatMap c30_o) ≤ mB) {body : LC} (hb : body = (.rgn [] [⟨some 12, (.move (.tmp 0)), 22, none⟩,
      ⟨some 13, (.move (.tmp 5)), 3, none⟩,
      ⟨some 14, (.indexAddr 22 (.tmp 12) (.tmp 13)), 0, none⟩,
      ⟨some 15, (.load 30 (.tmp 14)), 30, none⟩,
      ⟨some 16, (.move (.tmp 1)), 3, none⟩,
      ⟨some 17, (.call { callee := (.value (.func 57)), args := #[(.tmp 15), (.tmp 16)], argTypes := #[30, 3] }), 3, none⟩,
      ⟨some 1, (.assign (.tmp 17)), 3, none⟩])) : Round Try.prog 19 [] mtx 30 1 body l.length (l.flatMap c30_o) k := by
  subst hb
  intro St w0 bs g cap j w T hnd hbs hj hI0 t0 t1 t5
  have hd : deepL (l.flatMap c30_o) = true := deep_flat dp30 l
  have hI0 : Inv Try.prog St mtx 30 l.length (l.flatMap c30_o) k (.slice (some ⟨g, 0, none⟩) l.length cap) bs w0 (j * 1 + 0) w := hI0
  have t1 : T 1 = some (.int .i64 (k + (cntP (l.flatMap c30_o) (j * 1 + 0) : Int))) := t1
  have q0 : (l.flatMap c30_o)[j * 1 + 0]? = some (.own 3 (l[j]).length ((l[j]).flatMap ci64)) := (flat_at zc30_o hj (by decide)).trans rfl
  have b0 := cnt_bd q0 h1
  have n0 : 0 ≤ k + (cntP (l.flatMap c30_o) (j * 1 + 0) : Int) := cnt_nn h0
  have k0 := m_laws_markIntS (l[j]) (k + (cntP (l.flatMap c30_o) (j * 1 + 0) : Int)) n0 b0
  obtain ⟨u0, c0, d0⟩ := hI0.own' hd hnd hbs q0 k0
  have d0 : Calls Try.prog 57 #[u0, .int .i64 (k + (cntP (l.flatMap c30_o) (j * 1 + 0) : Int))] w (fun e' w' => e' = .returned (.int .i64 (k + (cntP (l.flatMap c30_o) (j * 1 + 1) : Int))) ∧ Inv Try.prog St mtx 30 l.length (l.flatMap c30_o) k (.slice (some ⟨g, 0, none⟩) l.length cap) bs w0 (j * 1 + 1) w') := d0
  refine ms_rgn (mo_move t0 (mo_move t5 (mo_ia tbOk rfl rfl rfl hj (mo_load tbOk rfl rfl rfl c0 (mo_move t1 (mo_call (lit_hb lit57) (args2 rfl rfl) (d0.mono ?_)))))))
  rintro e0 w1 ⟨rfl, hI1⟩
  refine ⟨_, rfl, mo_asg rfl (mo_nil ?_)⟩
  exact ⟨rfl, t0, rfl, t5, hI1⟩
theorem m_laws_markIntSS (l : List (List Int)) (k : Int) (h0 : 0 ≤ k) (h1 : k + cntVs (l.flatMap c30_o) ≤ mB) : MarkAt Try.prog 85 (.own 30 l.length (l.flatMap c30_o)) k (.own 30 l.length (mkVs mtx (l.flatMap c30_o) k)) (k + cntVs (l.flatMap c30_o)) :=
  mark_slice tbOk (r := 18) (ty := 22) (it := 3) (bt := 4) lit85 (by decide) rfl (flat_len zc30_o l) (by decide) (r_laws_markIntSS l k h0 h1 rfl)
def laws_markIntSS (x : List (List Int)) (k : Int) : Option ((List (List Int)) × Int) := chk (0 ≤ k ∧ k + (ce22 x : Int) ≤ mB) (some (me22 x k, k + ce22 x))
theorem laws_markIntSS_e {x : List (List Int)} {k : Int} (h0 : 0 ≤ k) (h1 : k + (ce22 x : Int) ≤ mB) : laws_markIntSS x k = some (me22 x k, k + ce22 x) := chk_pos ⟨h0, h1⟩
theorem laws_markIntSS_m {x : List (List Int)} {k : Int} {r : (List (List Int)) × Int} (h : laws_markIntSS x k = some r) : MarkAt Try.prog 85 (.own 30 x.length (x.flatMap c30_o)) k (.own 30 r.1.length (r.1.flatMap c30_o)) r.2 := by
  obtain ⟨⟨h0, h1⟩, h⟩ := chk_some h
  have hr := Option.some.inj h
  subst hr
  have hx := cntVs_flat (f := c30_o) (cnt := ce30) hc30 x
  have e := m_laws_markIntSS x k h0 (by rw [hx]; exact h1)
  rw [mkVs_flat (f := c30_o) (cnt := ce30) (mk := me30) hm30 hc30, hx] at e
  show MarkAt Try.prog 85 _ k (.own 30 (mkL ce30 me30 x k).length ((mkL ce30 me30 x k).flatMap c30_o)) (k + (cntL ce30 x : Int))
  rw [mkL_length]
  exact e
def ce24 (x : Int × (List (List Int))) : Nat := (1) + (ce22 x.2)
def me24 (x : Int × (List (List Int))) (k : Int) : Int × (List (List Int)) := ((k), me22 x.2 (k + ((1 : Nat) : Int)))
theorem hm24 (x : Int × (List (List Int))) (k : Int) : mkVs mtx (c24_oo x) k = c24_oo (me24 x k) := by
  have h : mkVs mtx [.int .i64 x.1, .own 30 x.2.length (x.2.flatMap c30_o)] k = _ := (mkc (n := 1) (c' := V.int .i64 _) rfl rfl (mkc (mk_own hm30 hc30 _ _) (cnt_own hc30 _) (show mkVs mtx [] _ = [] from rfl)))
  refine h.trans ?_
  simp only [c24_oo, me24, ce24, ce22, me22, Int.add_assoc, ← Int.natCast_add, Nat.add_assoc, Int.natCast_add]
theorem hc24 (x : Int × (List (List Int))) : cntVs (c24_oo x) = ce24 x := by
  have h : cntVs [.int .i64 x.1, .own 30 x.2.length (x.2.flatMap c30_o)] = _ := (cntc (n := 1) rfl (cntc (cnt_own hc30 _) (show cntVs [] = 0 from rfl)))
  refine (show cntVs (c24_oo x) = _ from h).trans ?_
  simp only [ce24, ce22, me22, Nat.add_assoc, Nat.add_zero]
theorem dp24 (x : Int × (List (List Int))) : deepL (c24_oo x) = true := (dpc rfl (dpc (dpo dp30 _) rfl))
def cs24 (x : Int × (List (List Int))) : Nat := ce22 x.2
def ms24 (x : Int × (List (List Int))) (k : Int) : Int × (List (List Int)) := (x.1, me22 x.2 (k))
theorem hs24 (x : Int × (List (List Int))) (k : Int) : mkA mtx (c24_oo x) k = c24_oo (ms24 x k) := by
  have h : mkA mtx [.int .i64 x.1, .own 30 x.2.length (x.2.flatMap c30_o)] k = _ := (mka (fun _ _ => rfl) (mkao hm30 hc30 _ (show mkA mtx [] _ = [] from rfl)))
  refine h.trans ?_
  simp only [c24_oo, ms24, cs24, ce22, me22, Int.add_assoc, ← Int.natCast_add, Nat.add_assoc, Int.natCast_add]
theorem hz24 (x : Int × (List (List Int))) : cntA (c24_oo x) = cs24 x := by
  have h : cntA [.int .i64 x.1, .own 30 x.2.length (x.2.flatMap c30_o)] = _ := (cnta (fun _ => rfl) (cntao hc30 _ (show cntA [] = 0 from rfl)))
  refine (show cntA (c24_oo x) = _ from h).trans ?_
  simp only [cs24, ce22, me22, Nat.add_assoc, Nat.add_zero, Nat.zero_add]
theorem m_laws_markRelation (x : Int × (List (List Int))) (k : Int) (h0 : 0 ≤ k) (h1 : k + cntA (c24_oo x) ≤ mB) : MarkAt Try.prog 18 (.agg (c24_oo x)) k (.agg (mkA mtx (c24_oo x) k)) (k + cntA (c24_oo x)) := by
  refine ⟨lit_hb lit18, fun w0 St v bs hO hnd hbs => ?_⟩
  obtain ⟨us, rfl, hO⟩ := hO
  refine calls_ms (rs := []) (vs := [.agg us.toArray, .int .i64 k]) lit18 (Nat.le_of_ble_eq_true rfl) ?_
  have hd : deepL (c24_oo x) = true := dp24 x
  have hI0 := InvA.start (mt := mtx) (k := k) (t := 24) hO hd hbs
  refine ms_seq (ms_rgn (mo_box rfl (mo_asgc (mo_nil ?_))))
  have hI1 := hI0.skip (c := .int .i64 x.1) rfl (fun _ => rfl)
  have q1 : (c24_oo x)[1]? = some (.own 30 x.2.length (x.2.flatMap c30_o)) := rfl
  obtain ⟨u1, c1, d1⟩ := hI1.own hd hnd hbs q1 (m_laws_markIntSS x.2 (k + (cntA ((c24_oo x).take 1) : Int)) (by omega) (cntA_bd q1 h1))
  refine ms_seq (ms_rgn (mo_fa tbOk rfl rfl rfl (mo_load tbOk rfl rfl rfl c1 (mo_move (t1_0 (k := k) (n := cntA ((c24_oo x).take 1)) rfl) (mo_call (lit_hb lit85) (args2 rfl rfl) (d1.mono ?_))))))
  rintro e1 w1 ⟨rfl, hI2⟩
  refine ⟨_, rfl, mo_asg rfl (mo_nil ?_)⟩
  obtain ⟨hx, hy⟩ := hI2.done (Nat.le_of_ble_eq_true rfl)
  refine ms_seq (ms_rgn (mo_move rfl (mo_asg rfl (mo_nil ?_))))
  exact ms_ret ⟨.inl rfl, _, rfl, rfl, ⟨us, rfl, hx⟩, hy⟩
def laws_markRelation (x : Int × (List (List Int))) (k : Int) : Option ((Int × (List (List Int))) × Int) := chk (0 ≤ k ∧ k + (cs24 x : Int) ≤ mB) (some (ms24 x k, k + cs24 x))
theorem laws_markRelation_e {x : Int × (List (List Int))} {k : Int} (h0 : 0 ≤ k) (h1 : k + (cs24 x : Int) ≤ mB) : laws_markRelation x k = some (ms24 x k, k + cs24 x) := chk_pos ⟨h0, h1⟩
theorem laws_markRelation_m {x : Int × (List (List Int))} {k : Int} {r : (Int × (List (List Int))) × Int} (h : laws_markRelation x k = some r) : MarkAt Try.prog 18 (.agg (c24_oo x)) k (.agg (c24_oo r.1)) r.2 := by
  obtain ⟨⟨h0, h1⟩, h⟩ := chk_some h
  have hr := Option.some.inj h
  subst hr
  have e := m_laws_markRelation x k h0 (by rw [hz24]; exact h1)
  rw [hs24, hz24] at e
  exact e
end Go.Proofs.Ytkmkbpphdalgoaa
