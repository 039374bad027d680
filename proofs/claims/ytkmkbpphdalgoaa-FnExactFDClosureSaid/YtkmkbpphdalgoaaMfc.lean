/-
  What the functions that mark do: contracts and typed functions, printed by genmark.py. No conditions.
-/
import Derived.Test.YtkmkbpphdalgoaaMxc
namespace Go.Proofs.Ytkmkbpphdalgoaa
open Go.RowKit
set_option linter.unusedVariables false
set_option linter.unusedSimpArgs false
set_option maxRecDepth 100000
def c30_d (x : List Int) : List V := [.dat x.length (x.flatMap ci64)]
theorem zc30_d (x : List Int) : (c30_d x).length = 1 := rfl
theorem ec30_d (x : List Int) : erL (c30_d x) = c30_d x := (erc (erD eci64 _) rfl)
def c30_o (x : List Int) : List V := [.own 3 x.length (x.flatMap ci64)]
theorem zc30_o (x : List Int) : (c30_o x).length = 1 := rfl
theorem ec30_o (x : List Int) : erL (c30_o x) = c30_d x := (erc (erO eci64 _) rfl)
def c150_d (x : (List UInt8) × (List Int)) : List V := [.str x.1, .dat x.2.length (x.2.flatMap ci64)]
theorem zc150_d (x : (List UInt8) × (List Int)) : (c150_d x).length = 2 := rfl
theorem ec150_d (x : (List UInt8) × (List Int)) : erL (c150_d x) = c150_d x := (erc rfl (erc (erD eci64 _) rfl))
def c150_o (x : (List UInt8) × (List Int)) : List V := [.str x.1, .own 3 x.2.length (x.2.flatMap ci64)]
theorem zc150_o (x : (List UInt8) × (List Int)) : (c150_o x).length = 2 := rfl
theorem ec150_o (x : (List UInt8) × (List Int)) : erL (c150_o x) = c150_d x := (erc rfl (erc (erO eci64 _) rfl))
def c54_dd (x : List ((List UInt8) × (List Int))) : List V := [.dat x.length (x.flatMap c150_d)]
theorem zc54_dd (x : List ((List UInt8) × (List Int))) : (c54_dd x).length = 1 := rfl
theorem ec54_dd (x : List ((List UInt8) × (List Int))) : erL (c54_dd x) = c54_dd x := (erc (erD ec150_d _) rfl)
def c54_oo (x : List ((List UInt8) × (List Int))) : List V := [.own 150 x.length (x.flatMap c150_o)]
theorem zc54_oo (x : List ((List UInt8) × (List Int))) : (c54_oo x).length = 1 := rfl
theorem ec54_oo (x : List ((List UInt8) × (List Int))) : erL (c54_oo x) = c54_dd x := (erc (erO ec150_o _) rfl)
def c56_ddd (x : Int × (List ((List UInt8) × (List Int))) × (List Int)) : List V := [.int .i64 x.1, .dat x.2.1.length (x.2.1.flatMap c150_d), .dat x.2.2.length (x.2.2.flatMap ci64)]
theorem zc56_ddd (x : Int × (List ((List UInt8) × (List Int))) × (List Int)) : (c56_ddd x).length = 3 := rfl
theorem ec56_ddd (x : Int × (List ((List UInt8) × (List Int))) × (List Int)) : erL (c56_ddd x) = c56_ddd x := (erc rfl (erc (erD ec150_d _) (erc (erD eci64 _) rfl)))
def c56_ooo (x : Int × (List ((List UInt8) × (List Int))) × (List Int)) : List V := [.int .i64 x.1, .own 150 x.2.1.length (x.2.1.flatMap c150_o), .own 3 x.2.2.length (x.2.2.flatMap ci64)]
theorem zc56_ooo (x : Int × (List ((List UInt8) × (List Int))) × (List Int)) : (c56_ooo x).length = 3 := rfl
theorem ec56_ooo (x : Int × (List ((List UInt8) × (List Int))) × (List Int)) : erL (c56_ooo x) = c56_ddd x := (erc rfl (erc (erO ec150_o _) (erc (erO eci64 _) rfl)))
def c86_d (x : (List UInt8) × (List Int) × Int) : List V := [.str x.1, .dat x.2.1.length (x.2.1.flatMap ci64), .int .i64 x.2.2]
theorem zc86_d (x : (List UInt8) × (List Int) × Int) : (c86_d x).length = 3 := rfl
theorem ec86_d (x : (List UInt8) × (List Int) × Int) : erL (c86_d x) = c86_d x := (erc rfl (erc (erD eci64 _) (erc rfl rfl)))
def c86_o (x : (List UInt8) × (List Int) × Int) : List V := [.str x.1, .own 3 x.2.1.length (x.2.1.flatMap ci64), .int .i64 x.2.2]
theorem zc86_o (x : (List UInt8) × (List Int) × Int) : (c86_o x).length = 3 := rfl
theorem ec86_o (x : (List UInt8) × (List Int) × Int) : erL (c86_o x) = c86_d x := (erc rfl (erc (erO eci64 _) (erc rfl rfl)))
def c114_dd (x : List ((List UInt8) × (List Int) × Int)) : List V := [.dat x.length (x.flatMap c86_d)]
theorem zc114_dd (x : List ((List UInt8) × (List Int) × Int)) : (c114_dd x).length = 1 := rfl
theorem ec114_dd (x : List ((List UInt8) × (List Int) × Int)) : erL (c114_dd x) = c114_dd x := (erc (erD ec86_d _) rfl)
def c114_oo (x : List ((List UInt8) × (List Int) × Int)) : List V := [.own 86 x.length (x.flatMap c86_o)]
theorem zc114_oo (x : List ((List UInt8) × (List Int) × Int)) : (c114_oo x).length = 1 := rfl
theorem ec114_oo (x : List ((List UInt8) × (List Int) × Int)) : erL (c114_oo x) = c114_dd x := (erc (erO ec86_o _) rfl)
def ce30 (x : List Int) : Nat := cntL oneI x
def me30 (x : List Int) (k : Int) : List Int := mkL oneI markI x k
theorem hm30 (x : List Int) (k : Int) : mkVs mtx (c30_o x) k = c30_o (me30 x k) := by
  unfold c30_o me30
  exact mkc (mk_own hmI hcI x k) (cnt_own hcI x) rfl
theorem hc30 (x : List Int) : cntVs (c30_o x) = ce30 x := by
  unfold c30_o ce30
  exact cntc (cnt_own hcI x) rfl
theorem dp30 (x : List Int) : deepL (c30_o x) = true := dpc (dpo (fun _ => rfl) x) rfl
theorem r_laws_markIntS (l : List Int) (k : Int) (h0 : 0 ≤ k) (h1 : k + cntVs (l.flatMap ci64) ≤ mB) {body : LC} (hb : body = (.seq (.rgn [] [⟨some 12, (.move (.tmp 0)), 30, none⟩,
      ⟨some 13, (.move (.tmp 5)), 3, none⟩,
      ⟨some 14, (.move (.tmp 1)), 3, none⟩,
      ⟨some 15, (.indexAddr 30 (.tmp 12) (.tmp 13)), 0, none⟩,
      ⟨none, (.store 3 (.tmp 15) (.tmp 14)), 0, none⟩])
    (.rgn [] [⟨some 16, (.move (.tmp 1)), 3, none⟩,
      ⟨some 17, (.binOp .add 3 (.tmp 16) (.const (.int .i64 1)) 3), 3, none⟩,
      ⟨some 1, (.assign (.tmp 17)), 3, none⟩]))) : Round Try.prog 19 [] mtx 3 1 body l.length (l.flatMap ci64) k := by
  subst hb
  intro St w0 bs g cap j w T hnd hbs hj hI0 t0 t1 t5
  have hd : deepL (l.flatMap ci64) = true := deep_flat (fun _ => rfl) l
  have hI0 : Inv Try.prog St mtx 3 l.length (l.flatMap ci64) k (.slice (some ⟨g, 0, none⟩) l.length cap) bs w0 (j * 1 + 0) w := hI0
  have t1 : T 1 = some (.int .i64 (k + (cntP (l.flatMap ci64) (j * 1 + 0) : Int))) := t1
  have q0 : (l.flatMap ci64)[j * 1 + 0]? = some (.int .i64 (l[j])) := (flat_at zci64 hj (by decide)).trans rfl
  have b0 := cnt_bd q0 h1
  rw [show cntV (.int .i64 (l[j])) = 1 from rfl] at b0
  have x0 : k + (cntP (l.flatMap ci64) (j * 1 + 0) : Int) + 1 = k + (cntP (l.flatMap ci64) (j * 1 + 1) : Int) := cnt_s1 (k := k) q0 rfl
  have n0 : 0 ≤ k + (cntP (l.flatMap ci64) (j * 1 + 0) : Int) := cnt_nn h0
  obtain ⟨u0, c0, f0, hI1⟩ := hI0.int' hd hnd q0
  refine ms_seq (ms_rgn (mo_move t0 (mo_move t5 (mo_move t1 (mo_ia tbOk rfl rfl rfl hj (mo_store tbOk rfl rfl rfl rfl c0 f0 rfl (mo_nil ?_)))))))
  generalize hw1 : World.setCell _ _ _ = w1 at hI1 ⊢
  refine ms_rgn (mo_move t1 (mo_add rfl (by omega) (by unfold mB at b0; omega) (mo_asg rfl (mo_nil ?_))))
  rw [x0]
  exact ⟨rfl, t0, rfl, t5, hI1⟩
theorem m_laws_markIntS (l : List Int) (k : Int) (h0 : 0 ≤ k) (h1 : k + cntVs (l.flatMap ci64) ≤ mB) : MarkAt Try.prog 57 (.own 3 l.length (l.flatMap ci64)) k (.own 3 l.length (mkVs mtx (l.flatMap ci64) k)) (k + cntVs (l.flatMap ci64)) :=
  mark_slice tbOk (r := 18) (ty := 30) (it := 3) (bt := 4) lit57 (by decide) rfl (flat_len zci64 l) (by decide) (r_laws_markIntS l k h0 h1 rfl)
def laws_markIntS (x : List Int) (k : Int) : Option ((List Int) × Int) := chk (0 ≤ k ∧ k + (ce30 x : Int) ≤ mB) (some (me30 x k, k + ce30 x))
theorem laws_markIntS_e {x : List Int} {k : Int} (h0 : 0 ≤ k) (h1 : k + (ce30 x : Int) ≤ mB) : laws_markIntS x k = some (me30 x k, k + ce30 x) := chk_pos ⟨h0, h1⟩
theorem laws_markIntS_m {x : List Int} {k : Int} {r : (List Int) × Int} (h : laws_markIntS x k = some r) : MarkAt Try.prog 57 (.own 3 x.length (x.flatMap ci64)) k (.own 3 r.1.length (r.1.flatMap ci64)) r.2 := by
  obtain ⟨⟨h0, h1⟩, h⟩ := chk_some h
  have hr := Option.some.inj h
  subst hr
  have hx := cntVs_flat (f := ci64) (cnt := oneI) hcI x
  have e := m_laws_markIntS x k h0 (by rw [hx]; exact h1)
  rw [mkVs_flat (f := ci64) (cnt := oneI) (mk := markI) hmI hcI, hx] at e
  show MarkAt Try.prog 57 _ k (.own 3 (mkL oneI markI x k).length ((mkL oneI markI x k).flatMap ci64)) (k + (cntL oneI x : Int))
  rw [mkL_length]
  exact e
def ce150 (x : (List UInt8) × (List Int)) : Nat := (1) + (ce30 x.2)
def me150 (x : (List UInt8) × (List Int)) (k : Int) : (List UInt8) × (List Int) := (mtx (k), me30 x.2 (k + ((1 : Nat) : Int)))
theorem hm150 (x : (List UInt8) × (List Int)) (k : Int) : mkVs mtx (c150_o x) k = c150_o (me150 x k) := by
  have h : mkVs mtx [.str x.1, .own 3 x.2.length (x.2.flatMap ci64)] k = _ := (mkc (n := 1) (c' := V.str _) rfl rfl (mkc (mk_own hmI hcI _ _) (cnt_own hcI _) (show mkVs mtx [] _ = [] from rfl)))
  refine h.trans ?_
  simp only [c150_o, me150, ce150, ce30, me30, Int.add_assoc, ← Int.natCast_add, Nat.add_assoc, Int.natCast_add]
theorem hc150 (x : (List UInt8) × (List Int)) : cntVs (c150_o x) = ce150 x := by
  have h : cntVs [.str x.1, .own 3 x.2.length (x.2.flatMap ci64)] = _ := (cntc (n := 1) rfl (cntc (cnt_own hcI _) (show cntVs [] = 0 from rfl)))
  refine (show cntVs (c150_o x) = _ from h).trans ?_
  simp only [ce150, ce30, me30, Nat.add_assoc, Nat.add_zero]
theorem dp150 (x : (List UInt8) × (List Int)) : deepL (c150_o x) = true := (dpc rfl (dpc (dpo (fun _ => rfl) _) rfl))
def ce54 (x : List ((List UInt8) × (List Int))) : Nat := cntL ce150 x
def me54 (x : List ((List UInt8) × (List Int))) (k : Int) : List ((List UInt8) × (List Int)) := mkL ce150 me150 x k
theorem hm54 (x : List ((List UInt8) × (List Int))) (k : Int) : mkVs mtx (c54_oo x) k = c54_oo (me54 x k) := by
  unfold c54_oo me54
  exact mkc (mk_own hm150 hc150 x k) (cnt_own hc150 x) rfl
theorem hc54 (x : List ((List UInt8) × (List Int))) : cntVs (c54_oo x) = ce54 x := by
  unfold c54_oo ce54
  exact cntc (cnt_own hc150 x) rfl
theorem dp54 (x : List ((List UInt8) × (List Int))) : deepL (c54_oo x) = true := dpc (dpo dp150 x) rfl
theorem r_laws_markAtomS (l : List ((List UInt8) × (List Int))) (k : Int) (h0 : 0 ≤ k) (h1 : k + cntVs (l.flatMap c150_o) ≤ mB) {body : LC} (hb : body = (.seq (.rgn [] [⟨some 12, (.move (.tmp 0)), 54, none⟩,
      ⟨some 13, (.move (.tmp 5)), 3, none⟩,
      ⟨some 14, (.move (.tmp 1)), 3, none⟩,
      ⟨some 15, (.call { callee := (.value (.func 138)), args := #[(.tmp 14)], argTypes := #[3] }), 9, none⟩,
      ⟨some 16, (.indexAddr 54 (.tmp 12) (.tmp 13)), 0, none⟩,
      ⟨some 17, (.fieldAddr 150 (.tmp 16) 0), 0, none⟩,
      ⟨none, (.store 9 (.tmp 17) (.tmp 15)), 0, none⟩])
    (.seq (.rgn [] [⟨some 18, (.move (.tmp 1)), 3, none⟩,
      ⟨some 19, (.binOp .add 3 (.tmp 18) (.const (.int .i64 1)) 3), 3, none⟩,
      ⟨some 1, (.assign (.tmp 19)), 3, none⟩])
    (.rgn [] [⟨some 20, (.move (.tmp 0)), 54, none⟩,
      ⟨some 21, (.move (.tmp 5)), 3, none⟩,
      ⟨some 22, (.indexAddr 54 (.tmp 20) (.tmp 21)), 0, none⟩,
      ⟨some 23, (.fieldAddr 150 (.tmp 22) 1), 0, none⟩,
      ⟨some 24, (.load 30 (.tmp 23)), 30, none⟩,
      ⟨some 25, (.move (.tmp 1)), 3, none⟩,
      ⟨some 26, (.call { callee := (.value (.func 57)), args := #[(.tmp 24), (.tmp 25)], argTypes := #[30, 3] }), 3, none⟩,
      ⟨some 1, (.assign (.tmp 26)), 3, none⟩])))) : Round Try.prog 28 [] mtx 150 2 body l.length (l.flatMap c150_o) k := by
  subst hb
  intro St w0 bs g cap j w T hnd hbs hj hI0 t0 t1 t5
  have hd : deepL (l.flatMap c150_o) = true := deep_flat dp150 l
  have hI0 : Inv Try.prog St mtx 150 l.length (l.flatMap c150_o) k (.slice (some ⟨g, 0, none⟩) l.length cap) bs w0 (j * 2 + 0) w := hI0
  have t1 : T 1 = some (.int .i64 (k + (cntP (l.flatMap c150_o) (j * 2 + 0) : Int))) := t1
  have q0 : (l.flatMap c150_o)[j * 2 + 0]? = some (.str ((l[j]).1)) := (flat_at zc150_o hj (by decide)).trans rfl
  have b0 := cnt_bd q0 h1
  rw [show cntV (.str ((l[j]).1)) = 1 from rfl] at b0
  have x0 : k + (cntP (l.flatMap c150_o) (j * 2 + 0) : Int) + 1 = k + (cntP (l.flatMap c150_o) (j * 2 + 1) : Int) := cnt_s1 (k := k) q0 rfl
  have n0 : 0 ≤ k + (cntP (l.flatMap c150_o) (j * 2 + 0) : Int) := cnt_nn h0
  have q1 : (l.flatMap c150_o)[j * 2 + 1]? = some (.own 3 ((l[j]).2).length (((l[j]).2).flatMap ci64)) := (flat_at zc150_o hj (by decide)).trans rfl
  have b1 := cnt_bd q1 h1
  have n1 : 0 ≤ k + (cntP (l.flatMap c150_o) (j * 2 + 1) : Int) := cnt_nn h0
  refine ms_seq (ms_rgn (mo_move t0 (mo_move t5 (mo_move t1 (mo_call mtx_hb (args1 rfl) ((mtx_calls n0 (by omega) w).mono ?_))))))
  rintro e0 w1 ⟨rfl, z0⟩
  have hI0 := hI0.grow hd hbs z0
  obtain ⟨u0, c0, f0, hI1⟩ := hI0.str' hd hnd q0 (mtx_len n0 (by omega))
  refine ⟨_, rfl, mo_ia tbOk rfl rfl rfl hj (mo_fa tbOk rfl rfl rfl (mo_store tbOk rfl rfl rfl rfl c0 f0 rfl (mo_nil ?_)))⟩
  generalize hw2 : World.setCell _ _ _ = w2 at hI1 ⊢
  refine ms_seq (ms_rgn (mo_move t1 (mo_add rfl (by omega) (by unfold mB at b0; omega) (mo_asg rfl (mo_nil ?_)))))
  rw [x0]
  have k1 := m_laws_markIntS ((l[j]).2) (k + (cntP (l.flatMap c150_o) (j * 2 + 1) : Int)) n1 b1
  obtain ⟨u1, c1, d1⟩ := hI1.own' hd hnd hbs q1 k1
  have d1 : Calls Try.prog 57 #[u1, .int .i64 (k + (cntP (l.flatMap c150_o) (j * 2 + 1) : Int))] w2 (fun e' w' => e' = .returned (.int .i64 (k + (cntP (l.flatMap c150_o) (j * 2 + 2) : Int))) ∧ Inv Try.prog St mtx 150 l.length (l.flatMap c150_o) k (.slice (some ⟨g, 0, none⟩) l.length cap) bs w0 (j * 2 + 2) w') := d1
  refine ms_rgn (mo_move t0 (mo_move t5 (mo_ia tbOk rfl rfl rfl hj (mo_fa tbOk rfl rfl rfl (mo_load tbOk rfl rfl rfl c1 (mo_move rfl (mo_call (lit_hb lit57) (args2 rfl rfl) (d1.mono ?_))))))))
  rintro e1 w3 ⟨rfl, hI2⟩
  refine ⟨_, rfl, mo_asg rfl (mo_nil ?_)⟩
  exact ⟨rfl, t0, rfl, t5, hI2⟩
theorem m_laws_markAtomS (l : List ((List UInt8) × (List Int))) (k : Int) (h0 : 0 ≤ k) (h1 : k + cntVs (l.flatMap c150_o) ≤ mB) : MarkAt Try.prog 126 (.own 150 l.length (l.flatMap c150_o)) k (.own 150 l.length (mkVs mtx (l.flatMap c150_o) k)) (k + cntVs (l.flatMap c150_o)) :=
  mark_slice tbOk (r := 27) (ty := 54) (it := 3) (bt := 4) lit126 (by decide) rfl (flat_len zc150_o l) (by decide) (r_laws_markAtomS l k h0 h1 rfl)
def laws_markAtomS (x : List ((List UInt8) × (List Int))) (k : Int) : Option ((List ((List UInt8) × (List Int))) × Int) := chk (0 ≤ k ∧ k + (ce54 x : Int) ≤ mB) (some (me54 x k, k + ce54 x))
theorem laws_markAtomS_e {x : List ((List UInt8) × (List Int))} {k : Int} (h0 : 0 ≤ k) (h1 : k + (ce54 x : Int) ≤ mB) : laws_markAtomS x k = some (me54 x k, k + ce54 x) := chk_pos ⟨h0, h1⟩
theorem laws_markAtomS_m {x : List ((List UInt8) × (List Int))} {k : Int} {r : (List ((List UInt8) × (List Int))) × Int} (h : laws_markAtomS x k = some r) : MarkAt Try.prog 126 (.own 150 x.length (x.flatMap c150_o)) k (.own 150 r.1.length (r.1.flatMap c150_o)) r.2 := by
  obtain ⟨⟨h0, h1⟩, h⟩ := chk_some h
  have hr := Option.some.inj h
  subst hr
  have hx := cntVs_flat (f := c150_o) (cnt := ce150) hc150 x
  have e := m_laws_markAtomS x k h0 (by rw [hx]; exact h1)
  rw [mkVs_flat (f := c150_o) (cnt := ce150) (mk := me150) hm150 hc150, hx] at e
  show MarkAt Try.prog 126 _ k (.own 150 (mkL ce150 me150 x k).length ((mkL ce150 me150 x k).flatMap c150_o)) (k + (cntL ce150 x : Int))
  rw [mkL_length]
  exact e
def ce56 (x : Int × (List ((List UInt8) × (List Int))) × (List Int)) : Nat := (1) + (ce54 x.2.1) + (ce30 x.2.2)
def me56 (x : Int × (List ((List UInt8) × (List Int))) × (List Int)) (k : Int) : Int × (List ((List UInt8) × (List Int))) × (List Int) := ((k), me54 x.2.1 (k + ((1 : Nat) : Int)), me30 x.2.2 (k + ((1 : Nat) : Int) + ((ce54 x.2.1 : Nat) : Int)))
theorem hm56 (x : Int × (List ((List UInt8) × (List Int))) × (List Int)) (k : Int) : mkVs mtx (c56_ooo x) k = c56_ooo (me56 x k) := by
  have h : mkVs mtx [.int .i64 x.1, .own 150 x.2.1.length (x.2.1.flatMap c150_o), .own 3 x.2.2.length (x.2.2.flatMap ci64)] k = _ := (mkc (n := 1) (c' := V.int .i64 _) rfl rfl (mkc (mk_own hm150 hc150 _ _) (cnt_own hc150 _) (mkc (mk_own hmI hcI _ _) (cnt_own hcI _) (show mkVs mtx [] _ = [] from rfl))))
  refine h.trans ?_
  simp only [c56_ooo, me56, ce56, ce30, ce54, me30, me54, Int.add_assoc, ← Int.natCast_add, Nat.add_assoc, Int.natCast_add]
theorem hc56 (x : Int × (List ((List UInt8) × (List Int))) × (List Int)) : cntVs (c56_ooo x) = ce56 x := by
  have h : cntVs [.int .i64 x.1, .own 150 x.2.1.length (x.2.1.flatMap c150_o), .own 3 x.2.2.length (x.2.2.flatMap ci64)] = _ := (cntc (n := 1) rfl (cntc (cnt_own hc150 _) (cntc (cnt_own hcI _) (show cntVs [] = 0 from rfl))))
  refine (show cntVs (c56_ooo x) = _ from h).trans ?_
  simp only [ce56, ce30, ce54, me30, me54, Nat.add_assoc, Nat.add_zero]
theorem dp56 (x : Int × (List ((List UInt8) × (List Int))) × (List Int)) : deepL (c56_ooo x) = true := (dpc rfl (dpc (dpo dp150 _) (dpc (dpo (fun _ => rfl) _) rfl)))
def cs56 (x : Int × (List ((List UInt8) × (List Int))) × (List Int)) : Nat := ce54 x.2.1 + ce30 x.2.2
def ms56 (x : Int × (List ((List UInt8) × (List Int))) × (List Int)) (k : Int) : Int × (List ((List UInt8) × (List Int))) × (List Int) := (x.1, me54 x.2.1 (k), me30 x.2.2 (k + ((ce54 x.2.1 : Nat) : Int)))
theorem hs56 (x : Int × (List ((List UInt8) × (List Int))) × (List Int)) (k : Int) : mkA mtx (c56_ooo x) k = c56_ooo (ms56 x k) := by
  have h : mkA mtx [.int .i64 x.1, .own 150 x.2.1.length (x.2.1.flatMap c150_o), .own 3 x.2.2.length (x.2.2.flatMap ci64)] k = _ := (mka (fun _ _ => rfl) (mkao hm150 hc150 _ (mkao hmI hcI _ (show mkA mtx [] _ = [] from rfl))))
  refine h.trans ?_
  simp only [c56_ooo, ms56, cs56, ce30, ce54, me30, me54, Int.add_assoc, ← Int.natCast_add, Nat.add_assoc, Int.natCast_add]
theorem hz56 (x : Int × (List ((List UInt8) × (List Int))) × (List Int)) : cntA (c56_ooo x) = cs56 x := by
  have h : cntA [.int .i64 x.1, .own 150 x.2.1.length (x.2.1.flatMap c150_o), .own 3 x.2.2.length (x.2.2.flatMap ci64)] = _ := (cnta (fun _ => rfl) (cntao hc150 _ (cntao hcI _ (show cntA [] = 0 from rfl))))
  refine (show cntA (c56_ooo x) = _ from h).trans ?_
  simp only [cs56, ce30, ce54, me30, me54, Nat.add_assoc, Nat.add_zero, Nat.zero_add]
theorem m_laws_markQuery (x : Int × (List ((List UInt8) × (List Int))) × (List Int)) (k : Int) (h0 : 0 ≤ k) (h1 : k + cntA (c56_ooo x) ≤ mB) : MarkAt Try.prog 55 (.agg (c56_ooo x)) k (.agg (mkA mtx (c56_ooo x) k)) (k + cntA (c56_ooo x)) := by
  refine ⟨lit_hb lit55, fun w0 St v bs hO hnd hbs => ?_⟩
  obtain ⟨us, rfl, hO⟩ := hO
  refine calls_ms (rs := []) (vs := [.agg us.toArray, .int .i64 k]) lit55 (Nat.le_of_ble_eq_true rfl) ?_
  have hd : deepL (c56_ooo x) = true := dp56 x
  have hI0 := InvA.start (mt := mtx) (k := k) (t := 56) hO hd hbs
  refine ms_seq (ms_rgn (mo_box rfl (mo_asgc (mo_nil ?_))))
  have hI1 := hI0.skip (c := .int .i64 x.1) rfl (fun _ => rfl)
  have q1 : (c56_ooo x)[1]? = some (.own 150 x.2.1.length (x.2.1.flatMap c150_o)) := rfl
  obtain ⟨u1, c1, d1⟩ := hI1.own hd hnd hbs q1 (m_laws_markAtomS x.2.1 (k + (cntA ((c56_ooo x).take 1) : Int)) (by omega) (cntA_bd q1 h1))
  refine ms_seq (ms_rgn (mo_fa tbOk rfl rfl rfl (mo_load tbOk rfl rfl rfl c1 (mo_move (t1_0 (k := k) (n := cntA ((c56_ooo x).take 1)) rfl) (mo_call (lit_hb lit126) (args2 rfl rfl) (d1.mono ?_))))))
  rintro e1 w1 ⟨rfl, hI2⟩
  refine ⟨_, rfl, mo_asg rfl (mo_nil ?_)⟩
  have q2 : (c56_ooo x)[2]? = some (.own 3 x.2.2.length (x.2.2.flatMap ci64)) := rfl
  obtain ⟨u2, c2, d2⟩ := hI2.own hd hnd hbs q2 (m_laws_markIntS x.2.2 (k + (cntA ((c56_ooo x).take 2) : Int)) (by omega) (cntA_bd q2 h1))
  refine ms_seq (ms_rgn (mo_fa tbOk rfl rfl rfl (mo_load tbOk rfl rfl rfl c2 (mo_move rfl (mo_call (lit_hb lit57) (args2 rfl rfl) (d2.mono ?_))))))
  rintro e2 w2 ⟨rfl, hI3⟩
  refine ⟨_, rfl, mo_asg rfl (mo_nil ?_)⟩
  obtain ⟨hx, hy⟩ := hI3.done (Nat.le_of_ble_eq_true rfl)
  refine ms_seq (ms_rgn (mo_move rfl (mo_asg rfl (mo_nil ?_))))
  exact ms_ret ⟨.inl rfl, _, rfl, rfl, ⟨us, rfl, hx⟩, hy⟩
def laws_markQuery (x : Int × (List ((List UInt8) × (List Int))) × (List Int)) (k : Int) : Option ((Int × (List ((List UInt8) × (List Int))) × (List Int)) × Int) := chk (0 ≤ k ∧ k + (cs56 x : Int) ≤ mB) (some (ms56 x k, k + cs56 x))
theorem laws_markQuery_e {x : Int × (List ((List UInt8) × (List Int))) × (List Int)} {k : Int} (h0 : 0 ≤ k) (h1 : k + (cs56 x : Int) ≤ mB) : laws_markQuery x k = some (ms56 x k, k + cs56 x) := chk_pos ⟨h0, h1⟩
theorem laws_markQuery_m {x : Int × (List ((List UInt8) × (List Int))) × (List Int)} {k : Int} {r : (Int × (List ((List UInt8) × (List Int))) × (List Int)) × Int} (h : laws_markQuery x k = some r) : MarkAt Try.prog 55 (.agg (c56_ooo x)) k (.agg (c56_ooo r.1)) r.2 := by
  obtain ⟨⟨h0, h1⟩, h⟩ := chk_some h
  have hr := Option.some.inj h
  subst hr
  have e := m_laws_markQuery x k h0 (by rw [hz56]; exact h1)
  rw [hs56, hz56] at e
  exact e
def ce86 (x : (List UInt8) × (List Int) × Int) : Nat := (1) + (ce30 x.2.1) + (1)
def me86 (x : (List UInt8) × (List Int) × Int) (k : Int) : (List UInt8) × (List Int) × Int := (mtx (k), me30 x.2.1 (k + ((1 : Nat) : Int)), (k + ((1 : Nat) : Int) + ((ce30 x.2.1 : Nat) : Int)))
theorem hm86 (x : (List UInt8) × (List Int) × Int) (k : Int) : mkVs mtx (c86_o x) k = c86_o (me86 x k) := by
  have h : mkVs mtx [.str x.1, .own 3 x.2.1.length (x.2.1.flatMap ci64), .int .i64 x.2.2] k = _ := (mkc (n := 1) (c' := V.str _) rfl rfl (mkc (mk_own hmI hcI _ _) (cnt_own hcI _) (mkc (n := 1) (c' := V.int .i64 _) rfl rfl (show mkVs mtx [] _ = [] from rfl))))
  refine h.trans ?_
  simp only [c86_o, me86, ce86, ce30, me30, Int.add_assoc, ← Int.natCast_add, Nat.add_assoc, Int.natCast_add]
theorem hc86 (x : (List UInt8) × (List Int) × Int) : cntVs (c86_o x) = ce86 x := by
  have h : cntVs [.str x.1, .own 3 x.2.1.length (x.2.1.flatMap ci64), .int .i64 x.2.2] = _ := (cntc (n := 1) rfl (cntc (cnt_own hcI _) (cntc (n := 1) rfl (show cntVs [] = 0 from rfl))))
  refine (show cntVs (c86_o x) = _ from h).trans ?_
  simp only [ce86, ce30, me30, Nat.add_assoc, Nat.add_zero]
theorem dp86 (x : (List UInt8) × (List Int) × Int) : deepL (c86_o x) = true := (dpc rfl (dpc (dpo (fun _ => rfl) _) (dpc rfl rfl)))
def ce114 (x : List ((List UInt8) × (List Int) × Int)) : Nat := cntL ce86 x
def me114 (x : List ((List UInt8) × (List Int) × Int)) (k : Int) : List ((List UInt8) × (List Int) × Int) := mkL ce86 me86 x k
theorem hm114 (x : List ((List UInt8) × (List Int) × Int)) (k : Int) : mkVs mtx (c114_oo x) k = c114_oo (me114 x k) := by
  unfold c114_oo me114
  exact mkc (mk_own hm86 hc86 x k) (cnt_own hc86 x) rfl
theorem hc114 (x : List ((List UInt8) × (List Int) × Int)) : cntVs (c114_oo x) = ce114 x := by
  unfold c114_oo ce114
  exact cntc (cnt_own hc86 x) rfl
theorem dp114 (x : List ((List UInt8) × (List Int) × Int)) : deepL (c114_oo x) = true := dpc (dpo dp86 x) rfl
theorem r_laws_markFunctionalDependencyS (l : List ((List UInt8) × (List Int) × Int)) (k : Int) (h0 : 0 ≤ k) (h1 : k + cntVs (l.flatMap c86_o) ≤ mB) {body : LC} (hb : body = (.seq (.rgn [] [⟨some 12, (.move (.tmp 0)), 114, none⟩,
      ⟨some 13, (.move (.tmp 5)), 3, none⟩,
      ⟨some 14, (.move (.tmp 1)), 3, none⟩,
      ⟨some 15, (.call { callee := (.value (.func 138)), args := #[(.tmp 14)], argTypes := #[3] }), 9, none⟩,
      ⟨some 16, (.indexAddr 114 (.tmp 12) (.tmp 13)), 0, none⟩,
      ⟨some 17, (.fieldAddr 86 (.tmp 16) 0), 0, none⟩,
      ⟨none, (.store 9 (.tmp 17) (.tmp 15)), 0, none⟩])
    (.seq (.rgn [] [⟨some 18, (.move (.tmp 1)), 3, none⟩,
      ⟨some 19, (.binOp .add 3 (.tmp 18) (.const (.int .i64 1)) 3), 3, none⟩,
      ⟨some 1, (.assign (.tmp 19)), 3, none⟩])
    (.seq (.rgn [] [⟨some 20, (.move (.tmp 0)), 114, none⟩,
      ⟨some 21, (.move (.tmp 5)), 3, none⟩,
      ⟨some 22, (.indexAddr 114 (.tmp 20) (.tmp 21)), 0, none⟩,
      ⟨some 23, (.fieldAddr 86 (.tmp 22) 1), 0, none⟩,
      ⟨some 24, (.load 30 (.tmp 23)), 30, none⟩,
      ⟨some 25, (.move (.tmp 1)), 3, none⟩,
      ⟨some 26, (.call { callee := (.value (.func 57)), args := #[(.tmp 24), (.tmp 25)], argTypes := #[30, 3] }), 3, none⟩,
      ⟨some 1, (.assign (.tmp 26)), 3, none⟩])
    (.seq (.rgn [] [⟨some 27, (.move (.tmp 0)), 114, none⟩,
      ⟨some 28, (.move (.tmp 5)), 3, none⟩,
      ⟨some 29, (.move (.tmp 1)), 3, none⟩,
      ⟨some 30, (.indexAddr 114 (.tmp 27) (.tmp 28)), 0, none⟩,
      ⟨some 31, (.fieldAddr 86 (.tmp 30) 2), 0, none⟩,
      ⟨none, (.store 3 (.tmp 31) (.tmp 29)), 0, none⟩])
    (.rgn [] [⟨some 32, (.move (.tmp 1)), 3, none⟩,
      ⟨some 33, (.binOp .add 3 (.tmp 32) (.const (.int .i64 1)) 3), 3, none⟩,
      ⟨some 1, (.assign (.tmp 33)), 3, none⟩])))))) : Round Try.prog 35 [] mtx 86 3 body l.length (l.flatMap c86_o) k := by
  subst hb
  intro St w0 bs g cap j w T hnd hbs hj hI0 t0 t1 t5
  have hd : deepL (l.flatMap c86_o) = true := deep_flat dp86 l
  have hI0 : Inv Try.prog St mtx 86 l.length (l.flatMap c86_o) k (.slice (some ⟨g, 0, none⟩) l.length cap) bs w0 (j * 3 + 0) w := hI0
  have t1 : T 1 = some (.int .i64 (k + (cntP (l.flatMap c86_o) (j * 3 + 0) : Int))) := t1
  have q0 : (l.flatMap c86_o)[j * 3 + 0]? = some (.str ((l[j]).1)) := (flat_at zc86_o hj (by decide)).trans rfl
  have b0 := cnt_bd q0 h1
  rw [show cntV (.str ((l[j]).1)) = 1 from rfl] at b0
  have x0 : k + (cntP (l.flatMap c86_o) (j * 3 + 0) : Int) + 1 = k + (cntP (l.flatMap c86_o) (j * 3 + 1) : Int) := cnt_s1 (k := k) q0 rfl
  have n0 : 0 ≤ k + (cntP (l.flatMap c86_o) (j * 3 + 0) : Int) := cnt_nn h0
  have q1 : (l.flatMap c86_o)[j * 3 + 1]? = some (.own 3 ((l[j]).2.1).length (((l[j]).2.1).flatMap ci64)) := (flat_at zc86_o hj (by decide)).trans rfl
  have b1 := cnt_bd q1 h1
  have n1 : 0 ≤ k + (cntP (l.flatMap c86_o) (j * 3 + 1) : Int) := cnt_nn h0
  have q2 : (l.flatMap c86_o)[j * 3 + 2]? = some (.int .i64 ((l[j]).2.2)) := (flat_at zc86_o hj (by decide)).trans rfl
  have b2 := cnt_bd q2 h1
  rw [show cntV (.int .i64 ((l[j]).2.2)) = 1 from rfl] at b2
  have x2 : k + (cntP (l.flatMap c86_o) (j * 3 + 2) : Int) + 1 = k + (cntP (l.flatMap c86_o) (j * 3 + 3) : Int) := cnt_s1 (k := k) q2 rfl
  have n2 : 0 ≤ k + (cntP (l.flatMap c86_o) (j * 3 + 2) : Int) := cnt_nn h0
  refine ms_seq (ms_rgn (mo_move t0 (mo_move t5 (mo_move t1 (mo_call mtx_hb (args1 rfl) ((mtx_calls n0 (by omega) w).mono ?_))))))
  rintro e0 w1 ⟨rfl, z0⟩
  have hI0 := hI0.grow hd hbs z0
  obtain ⟨u0, c0, f0, hI1⟩ := hI0.str' hd hnd q0 (mtx_len n0 (by omega))
  refine ⟨_, rfl, mo_ia tbOk rfl rfl rfl hj (mo_fa tbOk rfl rfl rfl (mo_store tbOk rfl rfl rfl rfl c0 f0 rfl (mo_nil ?_)))⟩
  generalize hw2 : World.setCell _ _ _ = w2 at hI1 ⊢
  refine ms_seq (ms_rgn (mo_move t1 (mo_add rfl (by omega) (by unfold mB at b0; omega) (mo_asg rfl (mo_nil ?_)))))
  rw [x0]
  have k1 := m_laws_markIntS ((l[j]).2.1) (k + (cntP (l.flatMap c86_o) (j * 3 + 1) : Int)) n1 b1
  obtain ⟨u1, c1, d1⟩ := hI1.own' hd hnd hbs q1 k1
  have d1 : Calls Try.prog 57 #[u1, .int .i64 (k + (cntP (l.flatMap c86_o) (j * 3 + 1) : Int))] w2 (fun e' w' => e' = .returned (.int .i64 (k + (cntP (l.flatMap c86_o) (j * 3 + 2) : Int))) ∧ Inv Try.prog St mtx 86 l.length (l.flatMap c86_o) k (.slice (some ⟨g, 0, none⟩) l.length cap) bs w0 (j * 3 + 2) w') := d1
  refine ms_seq (ms_rgn (mo_move t0 (mo_move t5 (mo_ia tbOk rfl rfl rfl hj (mo_fa tbOk rfl rfl rfl (mo_load tbOk rfl rfl rfl c1 (mo_move rfl (mo_call (lit_hb lit57) (args2 rfl rfl) (d1.mono ?_)))))))))
  rintro e1 w3 ⟨rfl, hI2⟩
  refine ⟨_, rfl, mo_asg rfl (mo_nil ?_)⟩
  obtain ⟨u2, c2, f2, hI3⟩ := hI2.int' hd hnd q2
  refine ms_seq (ms_rgn (mo_move t0 (mo_move t5 (mo_move rfl (mo_ia tbOk rfl rfl rfl hj (mo_fa tbOk rfl rfl rfl (mo_store tbOk rfl rfl rfl rfl c2 f2 rfl (mo_nil ?_))))))))
  generalize hw4 : World.setCell _ _ _ = w4 at hI3 ⊢
  refine ms_rgn (mo_move rfl (mo_add rfl (by omega) (by unfold mB at b2; omega) (mo_asg rfl (mo_nil ?_))))
  rw [x2]
  exact ⟨rfl, t0, rfl, t5, hI3⟩
theorem m_laws_markFunctionalDependencyS (l : List ((List UInt8) × (List Int) × Int)) (k : Int) (h0 : 0 ≤ k) (h1 : k + cntVs (l.flatMap c86_o) ≤ mB) : MarkAt Try.prog 79 (.own 86 l.length (l.flatMap c86_o)) k (.own 86 l.length (mkVs mtx (l.flatMap c86_o) k)) (k + cntVs (l.flatMap c86_o)) :=
  mark_slice tbOk (r := 34) (ty := 114) (it := 3) (bt := 4) lit79 (by decide) rfl (flat_len zc86_o l) (by decide) (r_laws_markFunctionalDependencyS l k h0 h1 rfl)
def laws_markFunctionalDependencyS (x : List ((List UInt8) × (List Int) × Int)) (k : Int) : Option ((List ((List UInt8) × (List Int) × Int)) × Int) := chk (0 ≤ k ∧ k + (ce114 x : Int) ≤ mB) (some (me114 x k, k + ce114 x))
theorem laws_markFunctionalDependencyS_e {x : List ((List UInt8) × (List Int) × Int)} {k : Int} (h0 : 0 ≤ k) (h1 : k + (ce114 x : Int) ≤ mB) : laws_markFunctionalDependencyS x k = some (me114 x k, k + ce114 x) := chk_pos ⟨h0, h1⟩
theorem laws_markFunctionalDependencyS_m {x : List ((List UInt8) × (List Int) × Int)} {k : Int} {r : (List ((List UInt8) × (List Int) × Int)) × Int} (h : laws_markFunctionalDependencyS x k = some r) : MarkAt Try.prog 79 (.own 86 x.length (x.flatMap c86_o)) k (.own 86 r.1.length (r.1.flatMap c86_o)) r.2 := by
  obtain ⟨⟨h0, h1⟩, h⟩ := chk_some h
  have hr := Option.some.inj h
  subst hr
  have hx := cntVs_flat (f := c86_o) (cnt := ce86) hc86 x
  have e := m_laws_markFunctionalDependencyS x k h0 (by rw [hx]; exact h1)
  rw [mkVs_flat (f := c86_o) (cnt := ce86) (mk := me86) hm86 hc86, hx] at e
  show MarkAt Try.prog 79 _ k (.own 86 (mkL ce86 me86 x k).length ((mkL ce86 me86 x k).flatMap c86_o)) (k + (cntL ce86 x : Int))
  rw [mkL_length]
  exact e
end Go.Proofs.Ytkmkbpphdalgoaa
