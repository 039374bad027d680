/-
  What the functions that mark do: contracts and typed functions, printed by genmark.py. No conditions.
-/
import Derived.Test.YtmioifafgbjjhaaMxT1
namespace Go.Proofs.Ytmioifafgbjjhaa
open Go.RowKit
set_option linter.unusedVariables false
set_option linter.unusedSimpArgs false
set_option maxRecDepth 100000
def c31_d (x : List Int) : List V := [dL ci64 x]
theorem zc31_d (x : List Int) : (c31_d x).length = 1 := rfl
theorem ec31_d (x : List Int) : erL (c31_d x) = c31_d x := (erc (erD eci64 _) rfl)
def c31_o (x : List Int) : List V := [oL 3 ci64 x]
theorem zc31_o (x : List Int) : (c31_o x).length = 1 := rfl
theorem ec31_o (x : List Int) : erL (c31_o x) = c31_d x := (erc (erO eci64 _) rfl)
abbrev Y141 := (List UInt8) × (List Int)
def c142_d (x : Y141) : List V := [.str x.1, dL ci64 x.2]
theorem zc142_d (x : Y141) : (c142_d x).length = 2 := rfl
theorem ec142_d (x : Y141) : erL (c142_d x) = c142_d x := (erc rfl (erc (erD eci64 _) rfl))
def c142_o (x : Y141) : List V := [.str x.1, oL 3 ci64 x.2]
theorem zc142_o (x : Y141) : (c142_o x).length = 2 := rfl
theorem ec142_o (x : Y141) : erL (c142_o x) = c142_d x := (erc rfl (erc (erO eci64 _) rfl))
def c57_dd (x : List Y141) : List V := [dL c142_d x]
theorem zc57_dd (x : List Y141) : (c57_dd x).length = 1 := rfl
theorem ec57_dd (x : List Y141) : erL (c57_dd x) = c57_dd x := (erc (erD ec142_d _) rfl)
def c57_oo (x : List Y141) : List V := [oL 142 c142_o x]
theorem zc57_oo (x : List Y141) : (c57_oo x).length = 1 := rfl
theorem ec57_oo (x : List Y141) : erL (c57_oo x) = c57_dd x := (erc (erO ec142_o _) rfl)
abbrev Y58 := Int × (List Y141) × (List Int)
def c59_ddd (x : Y58) : List V := [nI x.1, dL c142_d x.2.1, dL ci64 x.2.2]
theorem zc59_ddd (x : Y58) : (c59_ddd x).length = 3 := rfl
theorem ec59_ddd (x : Y58) : erL (c59_ddd x) = c59_ddd x := (erc rfl (erc (erD ec142_d _) (erc (erD eci64 _) rfl)))
def c59_ooo (x : Y58) : List V := [nI x.1, oL 142 c142_o x.2.1, oL 3 ci64 x.2.2]
theorem zc59_ooo (x : Y58) : (c59_ooo x).length = 3 := rfl
theorem ec59_ooo (x : Y58) : erL (c59_ooo x) = c59_ddd x := (erc rfl (erc (erO ec142_o _) (erc (erO eci64 _) rfl)))
def c24_dd (x : List (List Int)) : List V := [dL c31_d x]
theorem zc24_dd (x : List (List Int)) : (c24_dd x).length = 1 := rfl
theorem ec24_dd (x : List (List Int)) : erL (c24_dd x) = c24_dd x := (erc (erD ec31_d _) rfl)
def c24_oo (x : List (List Int)) : List V := [oL 31 c31_o x]
theorem zc24_oo (x : List (List Int)) : (c24_oo x).length = 1 := rfl
theorem ec24_oo (x : List (List Int)) : erL (c24_oo x) = c24_dd x := (erc (erO ec31_o _) rfl)
abbrev Y25 := Int × (List (List Int))
def c26_dd (x : Y25) : List V := [nI x.1, dL c31_d x.2]
theorem zc26_dd (x : Y25) : (c26_dd x).length = 2 := rfl
theorem ec26_dd (x : Y25) : erL (c26_dd x) = c26_dd x := (erc rfl (erc (erD ec31_d _) rfl))
def c26_oo (x : Y25) : List V := [nI x.1, oL 31 c31_o x.2]
theorem zc26_oo (x : Y25) : (c26_oo x).length = 2 := rfl
theorem ec26_oo (x : Y25) : erL (c26_oo x) = c26_dd x := (erc rfl (erc (erO ec31_o _) rfl))
abbrev Y106 := (List UInt8) × Y25
def c107_dd (x : Y106) : List V := [.str x.1, nI x.2.1, dL c31_d x.2.2]
theorem zc107_dd (x : Y106) : (c107_dd x).length = 3 := rfl
theorem ec107_dd (x : Y106) : erL (c107_dd x) = c107_dd x := (erc rfl (erc rfl (erc (erD ec31_d _) rfl)))
def c107_oo (x : Y106) : List V := [.str x.1, nI x.2.1, oL 31 c31_o x.2.2]
theorem zc107_oo (x : Y106) : (c107_oo x).length = 3 := rfl
theorem ec107_oo (x : Y106) : erL (c107_oo x) = c107_dd x := (erc rfl (erc rfl (erc (erO ec31_o _) rfl)))
def c40_ddd (x : List Y106) : List V := [dL c107_dd x]
theorem zc40_ddd (x : List Y106) : (c40_ddd x).length = 1 := rfl
theorem ec40_ddd (x : List Y106) : erL (c40_ddd x) = c40_ddd x := (erc (erD ec107_dd _) rfl)
def c40_ooo (x : List Y106) : List V := [oL 107 c107_oo x]
theorem zc40_ooo (x : List Y106) : (c40_ooo x).length = 1 := rfl
theorem ec40_ooo (x : List Y106) : erL (c40_ooo x) = c40_ddd x := (erc (erO ec107_oo _) rfl)
def c42_ddd (x : List Y106) : List V := [dL c107_dd x]
theorem zc42_ddd (x : List Y106) : (c42_ddd x).length = 1 := rfl
theorem ec42_ddd (x : List Y106) : erL (c42_ddd x) = c42_ddd x := (erc (erD ec107_dd _) rfl)
def c42_ooo (x : List Y106) : List V := [oL 107 c107_oo x]
theorem zc42_ooo (x : List Y106) : (c42_ooo x).length = 1 := rfl
theorem ec42_ooo (x : List Y106) : erL (c42_ooo x) = c42_ddd x := (erc (erO ec107_oo _) rfl)
def ce31 (x : List Int) : Nat := cntL oneI x
def me31 (x : List Int) (k : Int) : List Int := mkL oneI markI x k
theorem hm31 (x : List Int) (k : Int) : mkVs mtx (c31_o x) k = c31_o (me31 x k) := by
  unfold c31_o me31
  exact mkc (mk_own hmI hcI x k) (cnt_own hcI x) rfl
theorem hc31 (x : List Int) : cntVs (c31_o x) = ce31 x := by
  unfold c31_o ce31
  exact cntc (cnt_own hcI x) rfl
theorem dp31 (x : List Int) : deepL (c31_o x) = true := dpc (dpo (fun _ => rfl) x) rfl
theorem r_laws_markIntS (l : List Int) (k : Int) (h0 : 0 ≤ k) (h1 : k + cntVs (l.flatMap ci64) ≤ mB) {body : LC} (hb : body = (.seq (.rgn [] [LL 12 (.move (.tmp 0)) 31,
      LL 13 (.move (.tmp 5)) 3,
      LL 14 (.move (.tmp 1)) 3,
      LL 15 (.indexAddr 31 (.tmp 12) (.tmp 13)) 0,
      ⟨none, (.store 3 (.tmp 15) (.tmp 14)), 0, none⟩])
    (.rgn [] [LL 16 (.move (.tmp 1)) 3,
      LL 17 (.binOp .add 3 (.tmp 16) (.const (.int .i64 1)) 3) 3,
      LL 1 (.assign (.tmp 17)) 3]))) : Round Try.prog 19 [] mtx 3 1 body l.length (l.flatMap ci64) k := by
  subst hb
  intro St w0 bs g cap j w T hnd hbs hj hI0 t0 t1 t5
  have hd : deepL (l.flatMap ci64) = true := deep_flat (fun _ => rfl) l
  have hI0 : Inv Try.prog St mtx 3 l.length (l.flatMap ci64) k (.slice (some ⟨g, 0, none⟩) l.length cap) bs w0 (j * 1 + 0) w := hI0
  have t1 : T 1 = some (.int .i64 (k + (cntP (l.flatMap ci64) (j * 1 + 0) : Int))) := t1
  have q0 : (l.flatMap ci64)[j * 1 + 0]? = some (nI (l[j])) := (flat_at zci64 hj (by decide)).trans rfl
  have b0 := cnt_bd q0 h1
  rw [show cntV (nI (l[j])) = 1 from rfl] at b0
  have x0 : k + (cntP (l.flatMap ci64) (j * 1 + 0) : Int) + 1 = k + (cntP (l.flatMap ci64) (j * 1 + 1) : Int) := cnt_s1 (k := k) q0 rfl
  have n0 : 0 ≤ k + (cntP (l.flatMap ci64) (j * 1 + 0) : Int) := cnt_nn h0
  obtain ⟨u0, c0, f0, hI1⟩ := hI0.int' hd hnd q0
  refine ms_seq (ms_rgn (mo_move t0 (mo_move t5 (mo_move t1 (mo_ia tbOk rfl rfl rfl hj (mo_store tbOk rfl rfl rfl rfl c0 f0 rfl (mo_nil ?_)))))))
  generalize hw1 : World.setCell _ _ _ = w1 at hI1 ⊢
  refine ms_rgn (mo_move t1 (mo_add rfl (by omega) (by unfold mB at b0; omega) (mo_asg rfl (mo_nil ?_))))
  rw [x0]
  exact ⟨rfl, t0, rfl, t5, hI1⟩
theorem m_laws_markIntS (l : List Int) (k : Int) (h0 : 0 ≤ k) (h1 : k + cntVs (l.flatMap ci64) ≤ mB) : MarkAt Try.prog 39 (.own 3 l.length (l.flatMap ci64)) k (.own 3 l.length (mkVs mtx (l.flatMap ci64) k)) (k + cntVs (l.flatMap ci64)) :=
  mark_slice tbOk (r := 18) (ty := 31) (it := 3) (bt := 4) lit39 (by decide) rfl (flat_len zci64 l) (by decide) (r_laws_markIntS l k h0 h1 rfl)
def laws_markIntS (x : List Int) (k : Int) : Option ((List Int) × Int) := chk (0 ≤ k ∧ k + (ce31 x : Int) ≤ mB) (some (me31 x k, k + ce31 x))
theorem laws_markIntS_e {x : List Int} {k : Int} (h0 : 0 ≤ k) (h1 : k + (ce31 x : Int) ≤ mB) : laws_markIntS x k = some (me31 x k, k + ce31 x) := chk_pos ⟨h0, h1⟩
theorem laws_markIntS_m {x : List Int} {k : Int} {r : (List Int) × Int} (h : laws_markIntS x k = some r) : MarkAt Try.prog 39 (oL 3 ci64 x) k (oL 3 ci64 r.1) r.2 := by
  obtain ⟨⟨h0, h1⟩, h⟩ := chk_some h
  have hr := Option.some.inj h
  subst hr
  have hx := cntVs_flat (f := ci64) (cnt := oneI) hcI x
  have e := m_laws_markIntS x k h0 (by rw [hx]; exact h1)
  rw [mkVs_flat (f := ci64) (cnt := oneI) (mk := markI) hmI hcI, hx] at e
  show MarkAt Try.prog 39 _ k (.own 3 (mkL oneI markI x k).length ((mkL oneI markI x k).flatMap ci64)) (k + (cntL oneI x : Int))
  rw [mkL_length]
  exact e
def ce142 (x : Y141) : Nat := (1) + (ce31 x.2)
def me142 (x : Y141) (k : Int) : Y141 := (mtx (k), me31 x.2 (k + ((1 : Nat) : Int)))
theorem hm142 (x : Y141) (k : Int) : mkVs mtx (c142_o x) k = c142_o (me142 x k) := by
  have h : mkVs mtx [.str x.1, oL 3 ci64 x.2] k = _ := (mkc (n := 1) (c' := V.str _) rfl rfl (mkc (mk_own hmI hcI _ _) (cnt_own hcI _) (show mkVs mtx [] _ = [] from rfl)))
  refine h.trans ?_
  simp only [c142_o, me142, ce142, ce31, me31, Int.add_assoc, ← Int.natCast_add, Nat.add_assoc, Int.natCast_add]
theorem hc142 (x : Y141) : cntVs (c142_o x) = ce142 x := by
  have h : cntVs [.str x.1, oL 3 ci64 x.2] = _ := (cntc (n := 1) rfl (cntc (cnt_own hcI _) (show cntVs [] = 0 from rfl)))
  refine (show cntVs (c142_o x) = _ from h).trans ?_
  simp only [ce142, ce31, me31, Nat.add_assoc, Nat.add_zero]
theorem dp142 (x : Y141) : deepL (c142_o x) = true := (dpc rfl (dpc (dpo (fun _ => rfl) _) rfl))
def ce57 (x : List Y141) : Nat := cntL ce142 x
def me57 (x : List Y141) (k : Int) : List Y141 := mkL ce142 me142 x k
theorem hm57 (x : List Y141) (k : Int) : mkVs mtx (c57_oo x) k = c57_oo (me57 x k) := by
  unfold c57_oo me57
  exact mkc (mk_own hm142 hc142 x k) (cnt_own hc142 x) rfl
theorem hc57 (x : List Y141) : cntVs (c57_oo x) = ce57 x := by
  unfold c57_oo ce57
  exact cntc (cnt_own hc142 x) rfl
theorem dp57 (x : List Y141) : deepL (c57_oo x) = true := dpc (dpo dp142 x) rfl
theorem r_laws_markAtomS (l : List Y141) (k : Int) (h0 : 0 ≤ k) (h1 : k + cntVs (l.flatMap c142_o) ≤ mB) {body : LC} (hb : body = (.seq (.rgn [] [LL 12 (.move (.tmp 0)) 57,
      LL 13 (.move (.tmp 5)) 3,
      LL 14 (.move (.tmp 1)) 3,
      LL 15 (.call { callee := (.value (.func 183)), args := #[(.tmp 14)], argTypes := #[3] }) 9,
      LL 16 (.indexAddr 57 (.tmp 12) (.tmp 13)) 0,
      LL 17 (.fieldAddr 142 (.tmp 16) 0) 0,
      ⟨none, (.store 9 (.tmp 17) (.tmp 15)), 0, none⟩])
    (.seq (.rgn [] [LL 18 (.move (.tmp 1)) 3,
      LL 19 (.binOp .add 3 (.tmp 18) (.const (.int .i64 1)) 3) 3,
      LL 1 (.assign (.tmp 19)) 3])
    (.rgn [] [LL 20 (.move (.tmp 0)) 57,
      LL 21 (.move (.tmp 5)) 3,
      LL 22 (.indexAddr 57 (.tmp 20) (.tmp 21)) 0,
      LL 23 (.fieldAddr 142 (.tmp 22) 1) 0,
      LL 24 (.load 31 (.tmp 23)) 31,
      LL 25 (.move (.tmp 1)) 3,
      LL 26 (.call { callee := (.value (.func 39)), args := #[(.tmp 24), (.tmp 25)], argTypes := #[31, 3] }) 3,
      LL 1 (.assign (.tmp 26)) 3])))) : Round Try.prog 28 [] mtx 142 2 body l.length (l.flatMap c142_o) k := by
  subst hb
  intro St w0 bs g cap j w T hnd hbs hj hI0 t0 t1 t5
  have hd : deepL (l.flatMap c142_o) = true := deep_flat dp142 l
  have hI0 : Inv Try.prog St mtx 142 l.length (l.flatMap c142_o) k (.slice (some ⟨g, 0, none⟩) l.length cap) bs w0 (j * 2 + 0) w := hI0
  have t1 : T 1 = some (.int .i64 (k + (cntP (l.flatMap c142_o) (j * 2 + 0) : Int))) := t1
  have q0 : (l.flatMap c142_o)[j * 2 + 0]? = some (.str ((l[j]).1)) := (flat_at zc142_o hj (by decide)).trans rfl
  have b0 := cnt_bd q0 h1
  rw [show cntV (.str ((l[j]).1)) = 1 from rfl] at b0
  have x0 : k + (cntP (l.flatMap c142_o) (j * 2 + 0) : Int) + 1 = k + (cntP (l.flatMap c142_o) (j * 2 + 1) : Int) := cnt_s1 (k := k) q0 rfl
  have n0 : 0 ≤ k + (cntP (l.flatMap c142_o) (j * 2 + 0) : Int) := cnt_nn h0
  have q1 : (l.flatMap c142_o)[j * 2 + 1]? = some (oL 3 ci64 ((l[j]).2)) := (flat_at zc142_o hj (by decide)).trans rfl
  have b1 := cnt_bd q1 h1
  have n1 : 0 ≤ k + (cntP (l.flatMap c142_o) (j * 2 + 1) : Int) := cnt_nn h0
  refine ms_seq (ms_rgn (mo_move t0 (mo_move t5 (mo_move t1 (mo_call mtx_hb (args1 rfl) ((mtx_calls n0 (by omega) w).mono ?_))))))
  rintro e0 w1 ⟨rfl, z0⟩
  have hI0 := hI0.grow hd hbs z0
  obtain ⟨u0, c0, f0, hI1⟩ := hI0.str' hd hnd q0 (mtx_len n0 (by omega))
  refine ⟨_, rfl, mo_ia tbOk rfl rfl rfl hj (mo_fa tbOk rfl rfl rfl (mo_store tbOk rfl rfl rfl rfl c0 f0 rfl (mo_nil ?_)))⟩
  generalize hw2 : World.setCell _ _ _ = w2 at hI1 ⊢
  refine ms_seq (ms_rgn (mo_move t1 (mo_add rfl (by omega) (by unfold mB at b0; omega) (mo_asg rfl (mo_nil ?_)))))
  rw [x0]
  have k1 := m_laws_markIntS ((l[j]).2) (k + (cntP (l.flatMap c142_o) (j * 2 + 1) : Int)) n1 b1
  obtain ⟨u1, c1, d1⟩ := hI1.own' hd hnd hbs q1 k1
  have d1 : Calls Try.prog 39 #[u1, .int .i64 (k + (cntP (l.flatMap c142_o) (j * 2 + 1) : Int))] w2 (fun e' w' => e' = .returned (.int .i64 (k + (cntP (l.flatMap c142_o) (j * 2 + 2) : Int))) ∧ Inv Try.prog St mtx 142 l.length (l.flatMap c142_o) k (.slice (some ⟨g, 0, none⟩) l.length cap) bs w0 (j * 2 + 2) w') := d1
  refine ms_rgn (mo_move t0 (mo_move t5 (mo_ia tbOk rfl rfl rfl hj (mo_fa tbOk rfl rfl rfl (mo_load tbOk rfl rfl rfl c1 (mo_move rfl (mo_call (lit_hb lit39) (args2 rfl rfl) (d1.mono ?_))))))))
  rintro e1 w3 ⟨rfl, hI2⟩
  refine ⟨_, rfl, mo_asg rfl (mo_nil ?_)⟩
  exact ⟨rfl, t0, rfl, t5, hI2⟩
theorem m_laws_markAtomS (l : List Y141) (k : Int) (h0 : 0 ≤ k) (h1 : k + cntVs (l.flatMap c142_o) ≤ mB) : MarkAt Try.prog 112 (.own 142 l.length (l.flatMap c142_o)) k (.own 142 l.length (mkVs mtx (l.flatMap c142_o) k)) (k + cntVs (l.flatMap c142_o)) :=
  mark_slice tbOk (r := 27) (ty := 57) (it := 3) (bt := 4) lit112 (by decide) rfl (flat_len zc142_o l) (by decide) (r_laws_markAtomS l k h0 h1 rfl)
def laws_markAtomS (x : List Y141) (k : Int) : Option ((List Y141) × Int) := chk (0 ≤ k ∧ k + (ce57 x : Int) ≤ mB) (some (me57 x k, k + ce57 x))
theorem laws_markAtomS_e {x : List Y141} {k : Int} (h0 : 0 ≤ k) (h1 : k + (ce57 x : Int) ≤ mB) : laws_markAtomS x k = some (me57 x k, k + ce57 x) := chk_pos ⟨h0, h1⟩
theorem laws_markAtomS_m {x : List Y141} {k : Int} {r : (List Y141) × Int} (h : laws_markAtomS x k = some r) : MarkAt Try.prog 112 (oL 142 c142_o x) k (oL 142 c142_o r.1) r.2 := by
  obtain ⟨⟨h0, h1⟩, h⟩ := chk_some h
  have hr := Option.some.inj h
  subst hr
  have hx := cntVs_flat (f := c142_o) (cnt := ce142) hc142 x
  have e := m_laws_markAtomS x k h0 (by rw [hx]; exact h1)
  rw [mkVs_flat (f := c142_o) (cnt := ce142) (mk := me142) hm142 hc142, hx] at e
  show MarkAt Try.prog 112 _ k (.own 142 (mkL ce142 me142 x k).length ((mkL ce142 me142 x k).flatMap c142_o)) (k + (cntL ce142 x : Int))
  rw [mkL_length]
  exact e
def ce59 (x : Y58) : Nat := (1) + (ce57 x.2.1) + (ce31 x.2.2)
def me59 (x : Y58) (k : Int) : Y58 := ((k), me57 x.2.1 (k + ((1 : Nat) : Int)), me31 x.2.2 (k + ((1 : Nat) : Int) + ((ce57 x.2.1 : Nat) : Int)))
theorem hm59 (x : Y58) (k : Int) : mkVs mtx (c59_ooo x) k = c59_ooo (me59 x k) := by
  have h : mkVs mtx [nI x.1, oL 142 c142_o x.2.1, oL 3 ci64 x.2.2] k = _ := (mkc (n := 1) (c' := V.int .i64 _) rfl rfl (mkc (mk_own hm142 hc142 _ _) (cnt_own hc142 _) (mkc (mk_own hmI hcI _ _) (cnt_own hcI _) (show mkVs mtx [] _ = [] from rfl))))
  refine h.trans ?_
  simp only [c59_ooo, me59, ce59, ce31, ce57, me31, me57, Int.add_assoc, ← Int.natCast_add, Nat.add_assoc, Int.natCast_add]
theorem hc59 (x : Y58) : cntVs (c59_ooo x) = ce59 x := by
  have h : cntVs [nI x.1, oL 142 c142_o x.2.1, oL 3 ci64 x.2.2] = _ := (cntc (n := 1) rfl (cntc (cnt_own hc142 _) (cntc (cnt_own hcI _) (show cntVs [] = 0 from rfl))))
  refine (show cntVs (c59_ooo x) = _ from h).trans ?_
  simp only [ce59, ce31, ce57, me31, me57, Nat.add_assoc, Nat.add_zero]
theorem dp59 (x : Y58) : deepL (c59_ooo x) = true := (dpc rfl (dpc (dpo dp142 _) (dpc (dpo (fun _ => rfl) _) rfl)))
def cs59 (x : Y58) : Nat := ce57 x.2.1 + ce31 x.2.2
def ms59 (x : Y58) (k : Int) : Y58 := (x.1, me57 x.2.1 (k), me31 x.2.2 (k + ((ce57 x.2.1 : Nat) : Int)))
theorem hs59 (x : Y58) (k : Int) : mkA mtx (c59_ooo x) k = c59_ooo (ms59 x k) := by
  have h : mkA mtx [nI x.1, oL 142 c142_o x.2.1, oL 3 ci64 x.2.2] k = _ := (mka (fun _ _ => rfl) (mkao hm142 hc142 _ (mkao hmI hcI _ (show mkA mtx [] _ = [] from rfl))))
  refine h.trans ?_
  simp only [c59_ooo, ms59, cs59, ce31, ce57, me31, me57, Int.add_assoc, ← Int.natCast_add, Nat.add_assoc, Int.natCast_add]
theorem hz59 (x : Y58) : cntA (c59_ooo x) = cs59 x := by
  have h : cntA [nI x.1, oL 142 c142_o x.2.1, oL 3 ci64 x.2.2] = _ := (cnta (fun _ => rfl) (cntao hc142 _ (cntao hcI _ (show cntA [] = 0 from rfl))))
  refine (show cntA (c59_ooo x) = _ from h).trans ?_
  simp only [cs59, ce31, ce57, me31, me57, Nat.add_assoc, Nat.add_zero, Nat.zero_add]
theorem m_laws_markQuery (x : Y58) (k : Int) (h0 : 0 ≤ k) (h1 : k + cntA (c59_ooo x) ≤ mB) : MarkAt Try.prog 38 (.agg (c59_ooo x)) k (.agg (mkA mtx (c59_ooo x) k)) (k + cntA (c59_ooo x)) := by
  refine ⟨lit_hb lit38, fun w0 St v bs hO hnd hbs => ?_⟩
  obtain ⟨us, rfl, hO⟩ := hO
  refine calls_ms (rs := []) (vs := [.agg us.toArray, .int .i64 k]) lit38 (Nat.le_of_ble_eq_true rfl) ?_
  have hd : deepL (c59_ooo x) = true := dp59 x
  have hI0 := InvA.start (mt := mtx) (k := k) (t := 59) hO hd hbs
  refine ms_seq (ms_rgn (mo_box rfl (mo_asgc (mo_nil ?_))))
  have hI1 := hI0.skip (c := nI x.1) rfl (fun _ => rfl)
  have q1 : (c59_ooo x)[1]? = some (oL 142 c142_o x.2.1) := rfl
  obtain ⟨u1, c1, d1⟩ := hI1.own hd hnd hbs q1 (m_laws_markAtomS x.2.1 (k + (cntA ((c59_ooo x).take 1) : Int)) (by omega) (cntA_bd q1 h1))
  refine ms_seq (ms_rgn (mo_fa tbOk rfl rfl rfl (mo_load tbOk rfl rfl rfl c1 (mo_move (t1_0 (k := k) (n := cntA ((c59_ooo x).take 1)) rfl) (mo_call (lit_hb lit112) (args2 rfl rfl) (d1.mono ?_))))))
  rintro e1 w1 ⟨rfl, hI2⟩
  refine ⟨_, rfl, mo_asg rfl (mo_nil ?_)⟩
  have q2 : (c59_ooo x)[2]? = some (oL 3 ci64 x.2.2) := rfl
  obtain ⟨u2, c2, d2⟩ := hI2.own hd hnd hbs q2 (m_laws_markIntS x.2.2 (k + (cntA ((c59_ooo x).take 2) : Int)) (by omega) (cntA_bd q2 h1))
  refine ms_seq (ms_rgn (mo_fa tbOk rfl rfl rfl (mo_load tbOk rfl rfl rfl c2 (mo_move rfl (mo_call (lit_hb lit39) (args2 rfl rfl) (d2.mono ?_))))))
  rintro e2 w2 ⟨rfl, hI3⟩
  refine ⟨_, rfl, mo_asg rfl (mo_nil ?_)⟩
  obtain ⟨hx, hy⟩ := hI3.done (Nat.le_of_ble_eq_true rfl)
  refine ms_seq (ms_rgn (mo_move rfl (mo_asg rfl (mo_nil ?_))))
  exact ms_ret ⟨.inl rfl, _, rfl, rfl, ⟨us, rfl, hx⟩, hy⟩
def laws_markQuery (x : Y58) (k : Int) : Option (Y58 × Int) := chk (0 ≤ k ∧ k + (cs59 x : Int) ≤ mB) (some (ms59 x k, k + cs59 x))
theorem laws_markQuery_e {x : Y58} {k : Int} (h0 : 0 ≤ k) (h1 : k + (cs59 x : Int) ≤ mB) : laws_markQuery x k = some (ms59 x k, k + cs59 x) := chk_pos ⟨h0, h1⟩
theorem laws_markQuery_m {x : Y58} {k : Int} {r : Y58 × Int} (h : laws_markQuery x k = some r) : MarkAt Try.prog 38 (.agg (c59_ooo x)) k (.agg (c59_ooo r.1)) r.2 := by
  obtain ⟨⟨h0, h1⟩, h⟩ := chk_some h
  have hr := Option.some.inj h
  subst hr
  have e := m_laws_markQuery x k h0 (by rw [hz59]; exact h1)
  rw [hs59, hz59] at e
  exact e
def ce24 (x : List (List Int)) : Nat := cntL ce31 x
def me24 (x : List (List Int)) (k : Int) : List (List Int) := mkL ce31 me31 x k
theorem hm24 (x : List (List Int)) (k : Int) : mkVs mtx (c24_oo x) k = c24_oo (me24 x k) := by
  unfold c24_oo me24
  exact mkc (mk_own hm31 hc31 x k) (cnt_own hc31 x) rfl
theorem hc24 (x : List (List Int)) : cntVs (c24_oo x) = ce24 x := by
  unfold c24_oo ce24
  exact cntc (cnt_own hc31 x) rfl
theorem dp24 (x : List (List Int)) : deepL (c24_oo x) = true := dpc (dpo dp31 x) rfl
theorem r_laws_markIntSS (l : List (List Int)) (k : Int) (h0 : 0 ≤ k) (h1 : k + cntVs (l.flatMap c31_o) ≤ mB) {body : LC} (hb : body = (.rgn [] [LL 12 (.move (.tmp 0)) 24,
      LL 13 (.move (.tmp 5)) 3,
      LL 14 (.indexAddr 24 (.tmp 12) (.tmp 13)) 0,
      LL 15 (.load 31 (.tmp 14)) 31,
      LL 16 (.move (.tmp 1)) 3,
      LL 17 (.call { callee := (.value (.func 39)), args := #[(.tmp 15), (.tmp 16)], argTypes := #[31, 3] }) 3,
      LL 1 (.assign (.tmp 17)) 3])) : Round Try.prog 19 [] mtx 31 1 body l.length (l.flatMap c31_o) k := by
  subst hb
  intro St w0 bs g cap j w T hnd hbs hj hI0 t0 t1 t5
  have hd : deepL (l.flatMap c31_o) = true := deep_flat dp31 l
  have hI0 : Inv Try.prog St mtx 31 l.length (l.flatMap c31_o) k (.slice (some ⟨g, 0, none⟩) l.length cap) bs w0 (j * 1 + 0) w := hI0
  have t1 : T 1 = some (.int .i64 (k + (cntP (l.flatMap c31_o) (j * 1 + 0) : Int))) := t1
  have q0 : (l.flatMap c31_o)[j * 1 + 0]? = some (oL 3 ci64 (l[j])) := (flat_at zc31_o hj (by decide)).trans rfl
  have b0 := cnt_bd q0 h1
  have n0 : 0 ≤ k + (cntP (l.flatMap c31_o) (j * 1 + 0) : Int) := cnt_nn h0
  have k0 := m_laws_markIntS (l[j]) (k + (cntP (l.flatMap c31_o) (j * 1 + 0) : Int)) n0 b0
  obtain ⟨u0, c0, d0⟩ := hI0.own' hd hnd hbs q0 k0
  have d0 : Calls Try.prog 39 #[u0, .int .i64 (k + (cntP (l.flatMap c31_o) (j * 1 + 0) : Int))] w (fun e' w' => e' = .returned (.int .i64 (k + (cntP (l.flatMap c31_o) (j * 1 + 1) : Int))) ∧ Inv Try.prog St mtx 31 l.length (l.flatMap c31_o) k (.slice (some ⟨g, 0, none⟩) l.length cap) bs w0 (j * 1 + 1) w') := d0
  refine ms_rgn (mo_move t0 (mo_move t5 (mo_ia tbOk rfl rfl rfl hj (mo_load tbOk rfl rfl rfl c0 (mo_move t1 (mo_call (lit_hb lit39) (args2 rfl rfl) (d0.mono ?_)))))))
  rintro e0 w1 ⟨rfl, hI1⟩
  refine ⟨_, rfl, mo_asg rfl (mo_nil ?_)⟩
  exact ⟨rfl, t0, rfl, t5, hI1⟩
theorem m_laws_markIntSS (l : List (List Int)) (k : Int) (h0 : 0 ≤ k) (h1 : k + cntVs (l.flatMap c31_o) ≤ mB) : MarkAt Try.prog 184 (.own 31 l.length (l.flatMap c31_o)) k (.own 31 l.length (mkVs mtx (l.flatMap c31_o) k)) (k + cntVs (l.flatMap c31_o)) :=
  mark_slice tbOk (r := 18) (ty := 24) (it := 3) (bt := 4) lit184 (by decide) rfl (flat_len zc31_o l) (by decide) (r_laws_markIntSS l k h0 h1 rfl)
def laws_markIntSS (x : List (List Int)) (k : Int) : Option ((List (List Int)) × Int) := chk (0 ≤ k ∧ k + (ce24 x : Int) ≤ mB) (some (me24 x k, k + ce24 x))
theorem laws_markIntSS_e {x : List (List Int)} {k : Int} (h0 : 0 ≤ k) (h1 : k + (ce24 x : Int) ≤ mB) : laws_markIntSS x k = some (me24 x k, k + ce24 x) := chk_pos ⟨h0, h1⟩
theorem laws_markIntSS_m {x : List (List Int)} {k : Int} {r : (List (List Int)) × Int} (h : laws_markIntSS x k = some r) : MarkAt Try.prog 184 (oL 31 c31_o x) k (oL 31 c31_o r.1) r.2 := by
  obtain ⟨⟨h0, h1⟩, h⟩ := chk_some h
  have hr := Option.some.inj h
  subst hr
  have hx := cntVs_flat (f := c31_o) (cnt := ce31) hc31 x
  have e := m_laws_markIntSS x k h0 (by rw [hx]; exact h1)
  rw [mkVs_flat (f := c31_o) (cnt := ce31) (mk := me31) hm31 hc31, hx] at e
  show MarkAt Try.prog 184 _ k (.own 31 (mkL ce31 me31 x k).length ((mkL ce31 me31 x k).flatMap c31_o)) (k + (cntL ce31 x : Int))
  rw [mkL_length]
  exact e
def ce26 (x : Y25) : Nat := (1) + (ce24 x.2)
def me26 (x : Y25) (k : Int) : Y25 := ((k), me24 x.2 (k + ((1 : Nat) : Int)))
theorem hm26 (x : Y25) (k : Int) : mkVs mtx (c26_oo x) k = c26_oo (me26 x k) := by
  have h : mkVs mtx [nI x.1, oL 31 c31_o x.2] k = _ := (mkc (n := 1) (c' := V.int .i64 _) rfl rfl (mkc (mk_own hm31 hc31 _ _) (cnt_own hc31 _) (show mkVs mtx [] _ = [] from rfl)))
  refine h.trans ?_
  simp only [c26_oo, me26, ce26, ce24, me24, Int.add_assoc, ← Int.natCast_add, Nat.add_assoc, Int.natCast_add]
theorem hc26 (x : Y25) : cntVs (c26_oo x) = ce26 x := by
  have h : cntVs [nI x.1, oL 31 c31_o x.2] = _ := (cntc (n := 1) rfl (cntc (cnt_own hc31 _) (show cntVs [] = 0 from rfl)))
  refine (show cntVs (c26_oo x) = _ from h).trans ?_
  simp only [ce26, ce24, me24, Nat.add_assoc, Nat.add_zero]
theorem dp26 (x : Y25) : deepL (c26_oo x) = true := (dpc rfl (dpc (dpo dp31 _) rfl))
def ce107 (x : Y106) : Nat := (1) + (ce26 x.2)
def me107 (x : Y106) (k : Int) : Y106 := (mtx (k), me26 x.2 (k + ((1 : Nat) : Int)))
theorem hm107 (x : Y106) (k : Int) : mkVs mtx (c107_oo x) k = c107_oo (me107 x k) := by
  have h : mkVs mtx [.str x.1, nI x.2.1, oL 31 c31_o x.2.2] k = _ := (mkc (n := 1) (c' := V.str _) rfl rfl (mkc (n := 1) (c' := V.int .i64 _) rfl rfl (mkc (mk_own hm31 hc31 _ _) (cnt_own hc31 _) (show mkVs mtx [] _ = [] from rfl))))
  refine h.trans ?_
  simp only [c107_oo, me107, ce107, c26_oo, ce24, ce26, me24, me26, Int.add_assoc, ← Int.natCast_add, Nat.add_assoc, Int.natCast_add]
theorem hc107 (x : Y106) : cntVs (c107_oo x) = ce107 x := by
  have h : cntVs [.str x.1, nI x.2.1, oL 31 c31_o x.2.2] = _ := (cntc (n := 1) rfl (cntc (n := 1) rfl (cntc (cnt_own hc31 _) (show cntVs [] = 0 from rfl))))
  refine (show cntVs (c107_oo x) = _ from h).trans ?_
  simp only [ce107, c26_oo, ce24, ce26, me24, me26, Nat.add_assoc, Nat.add_zero]
theorem dp107 (x : Y106) : deepL (c107_oo x) = true := (dpc rfl (dpc rfl (dpc (dpo dp31 _) rfl)))
def ce40 (x : List Y106) : Nat := cntL ce107 x
def me40 (x : List Y106) (k : Int) : List Y106 := mkL ce107 me107 x k
theorem hm40 (x : List Y106) (k : Int) : mkVs mtx (c40_ooo x) k = c40_ooo (me40 x k) := by
  unfold c40_ooo me40
  exact mkc (mk_own hm107 hc107 x k) (cnt_own hc107 x) rfl
theorem hc40 (x : List Y106) : cntVs (c40_ooo x) = ce40 x := by
  unfold c40_ooo ce40
  exact cntc (cnt_own hc107 x) rfl
theorem dp40 (x : List Y106) : deepL (c40_ooo x) = true := dpc (dpo dp107 x) rfl
theorem r_laws_markTableS (l : List Y106) (k : Int) (h0 : 0 ≤ k) (h1 : k + cntVs (l.flatMap c107_oo) ≤ mB) {body : LC} (hb : body = (.seq (.rgn [] [LL 12 (.move (.tmp 0)) 40,
      LL 13 (.move (.tmp 5)) 3,
      LL 14 (.move (.tmp 1)) 3,
      LL 15 (.call { callee := (.value (.func 183)), args := #[(.tmp 14)], argTypes := #[3] }) 9,
      LL 16 (.indexAddr 40 (.tmp 12) (.tmp 13)) 0,
      LL 17 (.fieldAddr 107 (.tmp 16) 0) 0,
      ⟨none, (.store 9 (.tmp 17) (.tmp 15)), 0, none⟩])
    (.seq (.rgn [] [LL 18 (.move (.tmp 1)) 3,
      LL 19 (.binOp .add 3 (.tmp 18) (.const (.int .i64 1)) 3) 3,
      LL 1 (.assign (.tmp 19)) 3])
    (.seq (.rgn [] [LL 20 (.move (.tmp 0)) 40,
      LL 21 (.move (.tmp 5)) 3,
      LL 22 (.move (.tmp 1)) 3,
      LL 23 (.indexAddr 40 (.tmp 20) (.tmp 21)) 0,
      LL 24 (.fieldAddr 107 (.tmp 23) 1) 0,
      LL 25 (.fieldAddr 26 (.tmp 24) 0) 0,
      ⟨none, (.store 3 (.tmp 25) (.tmp 22)), 0, none⟩])
    (.seq (.rgn [] [LL 26 (.move (.tmp 1)) 3,
      LL 27 (.binOp .add 3 (.tmp 26) (.const (.int .i64 1)) 3) 3,
      LL 1 (.assign (.tmp 27)) 3])
    (.rgn [] [LL 28 (.move (.tmp 0)) 40,
      LL 29 (.move (.tmp 5)) 3,
      LL 30 (.indexAddr 40 (.tmp 28) (.tmp 29)) 0,
      LL 31 (.fieldAddr 107 (.tmp 30) 1) 0,
      LL 32 (.fieldAddr 26 (.tmp 31) 1) 0,
      LL 33 (.load 24 (.tmp 32)) 24,
      LL 34 (.move (.tmp 1)) 3,
      LL 35 (.call { callee := (.value (.func 184)), args := #[(.tmp 33), (.tmp 34)], argTypes := #[24, 3] }) 3,
      LL 1 (.assign (.tmp 35)) 3])))))) : Round Try.prog 37 [] mtx 107 3 body l.length (l.flatMap c107_oo) k := by
  subst hb
  intro St w0 bs g cap j w T hnd hbs hj hI0 t0 t1 t5
  have hd : deepL (l.flatMap c107_oo) = true := deep_flat dp107 l
  have hI0 : Inv Try.prog St mtx 107 l.length (l.flatMap c107_oo) k (.slice (some ⟨g, 0, none⟩) l.length cap) bs w0 (j * 3 + 0) w := hI0
  have t1 : T 1 = some (.int .i64 (k + (cntP (l.flatMap c107_oo) (j * 3 + 0) : Int))) := t1
  have q0 : (l.flatMap c107_oo)[j * 3 + 0]? = some (.str ((l[j]).1)) := (flat_at zc107_oo hj (by decide)).trans rfl
  have b0 := cnt_bd q0 h1
  rw [show cntV (.str ((l[j]).1)) = 1 from rfl] at b0
  have x0 : k + (cntP (l.flatMap c107_oo) (j * 3 + 0) : Int) + 1 = k + (cntP (l.flatMap c107_oo) (j * 3 + 1) : Int) := cnt_s1 (k := k) q0 rfl
  have n0 : 0 ≤ k + (cntP (l.flatMap c107_oo) (j * 3 + 0) : Int) := cnt_nn h0
  have q1 : (l.flatMap c107_oo)[j * 3 + 1]? = some (nI (((l[j]).2).1)) := (flat_at zc107_oo hj (by decide)).trans rfl
  have b1 := cnt_bd q1 h1
  rw [show cntV (nI (((l[j]).2).1)) = 1 from rfl] at b1
  have x1 : k + (cntP (l.flatMap c107_oo) (j * 3 + 1) : Int) + 1 = k + (cntP (l.flatMap c107_oo) (j * 3 + 2) : Int) := cnt_s1 (k := k) q1 rfl
  have n1 : 0 ≤ k + (cntP (l.flatMap c107_oo) (j * 3 + 1) : Int) := cnt_nn h0
  have q2 : (l.flatMap c107_oo)[j * 3 + 2]? = some (oL 31 c31_o (((l[j]).2).2)) := (flat_at zc107_oo hj (by decide)).trans rfl
  have b2 := cnt_bd q2 h1
  have n2 : 0 ≤ k + (cntP (l.flatMap c107_oo) (j * 3 + 2) : Int) := cnt_nn h0
  refine ms_seq (ms_rgn (mo_move t0 (mo_move t5 (mo_move t1 (mo_call mtx_hb (args1 rfl) ((mtx_calls n0 (by omega) w).mono ?_))))))
  rintro e0 w1 ⟨rfl, z0⟩
  have hI0 := hI0.grow hd hbs z0
  obtain ⟨u0, c0, f0, hI1⟩ := hI0.str' hd hnd q0 (mtx_len n0 (by omega))
  refine ⟨_, rfl, mo_ia tbOk rfl rfl rfl hj (mo_fa tbOk rfl rfl rfl (mo_store tbOk rfl rfl rfl rfl c0 f0 rfl (mo_nil ?_)))⟩
  generalize hw2 : World.setCell _ _ _ = w2 at hI1 ⊢
  refine ms_seq (ms_rgn (mo_move t1 (mo_add rfl (by omega) (by unfold mB at b0; omega) (mo_asg rfl (mo_nil ?_)))))
  rw [x0]
  obtain ⟨u1, c1, f1, hI2⟩ := hI1.int' hd hnd q1
  refine ms_seq (ms_rgn (mo_move t0 (mo_move t5 (mo_move rfl (mo_ia tbOk rfl rfl rfl hj (mo_fa tbOk rfl rfl rfl (mo_fa tbOk rfl rfl rfl (mo_store tbOk rfl rfl rfl rfl c1 f1 rfl (mo_nil ?_)))))))))
  generalize hw3 : World.setCell _ _ _ = w3 at hI2 ⊢
  refine ms_seq (ms_rgn (mo_move rfl (mo_add rfl (by omega) (by unfold mB at b1; omega) (mo_asg rfl (mo_nil ?_)))))
  rw [x1]
  have k2 := m_laws_markIntSS (((l[j]).2).2) (k + (cntP (l.flatMap c107_oo) (j * 3 + 2) : Int)) n2 b2
  obtain ⟨u2, c2, d2⟩ := hI2.own' hd hnd hbs q2 k2
  have d2 : Calls Try.prog 184 #[u2, .int .i64 (k + (cntP (l.flatMap c107_oo) (j * 3 + 2) : Int))] w3 (fun e' w' => e' = .returned (.int .i64 (k + (cntP (l.flatMap c107_oo) (j * 3 + 3) : Int))) ∧ Inv Try.prog St mtx 107 l.length (l.flatMap c107_oo) k (.slice (some ⟨g, 0, none⟩) l.length cap) bs w0 (j * 3 + 3) w') := d2
  refine ms_rgn (mo_move t0 (mo_move t5 (mo_ia tbOk rfl rfl rfl hj (mo_fa tbOk rfl rfl rfl (mo_fa tbOk rfl rfl rfl (mo_load tbOk rfl rfl rfl c2 (mo_move rfl (mo_call (lit_hb lit184) (args2 rfl rfl) (d2.mono ?_)))))))))
  rintro e2 w4 ⟨rfl, hI3⟩
  refine ⟨_, rfl, mo_asg rfl (mo_nil ?_)⟩
  exact ⟨rfl, t0, rfl, t5, hI3⟩
theorem m_laws_markTableS (l : List Y106) (k : Int) (h0 : 0 ≤ k) (h1 : k + cntVs (l.flatMap c107_oo) ≤ mB) : MarkAt Try.prog 113 (.own 107 l.length (l.flatMap c107_oo)) k (.own 107 l.length (mkVs mtx (l.flatMap c107_oo) k)) (k + cntVs (l.flatMap c107_oo)) :=
  mark_slice tbOk (r := 36) (ty := 40) (it := 3) (bt := 4) lit113 (by decide) rfl (flat_len zc107_oo l) (by decide) (r_laws_markTableS l k h0 h1 rfl)
def laws_markTableS (x : List Y106) (k : Int) : Option ((List Y106) × Int) := chk (0 ≤ k ∧ k + (ce40 x : Int) ≤ mB) (some (me40 x k, k + ce40 x))
theorem laws_markTableS_e {x : List Y106} {k : Int} (h0 : 0 ≤ k) (h1 : k + (ce40 x : Int) ≤ mB) : laws_markTableS x k = some (me40 x k, k + ce40 x) := chk_pos ⟨h0, h1⟩
theorem laws_markTableS_m {x : List Y106} {k : Int} {r : (List Y106) × Int} (h : laws_markTableS x k = some r) : MarkAt Try.prog 113 (oL 107 c107_oo x) k (oL 107 c107_oo r.1) r.2 := by
  obtain ⟨⟨h0, h1⟩, h⟩ := chk_some h
  have hr := Option.some.inj h
  subst hr
  have hx := cntVs_flat (f := c107_oo) (cnt := ce107) hc107 x
  have e := m_laws_markTableS x k h0 (by rw [hx]; exact h1)
  rw [mkVs_flat (f := c107_oo) (cnt := ce107) (mk := me107) hm107 hc107, hx] at e
  show MarkAt Try.prog 113 _ k (.own 107 (mkL ce107 me107 x k).length ((mkL ce107 me107 x k).flatMap c107_oo)) (k + (cntL ce107 x : Int))
  rw [mkL_length]
  exact e
def ce42 (x : List Y106) : Nat := (ce40 x)
def me42 (x : List Y106) (k : Int) : List Y106 := (me40 x (k))
theorem hm42 (x : List Y106) (k : Int) : mkVs mtx (c42_ooo x) k = c42_ooo (me42 x k) := by
  have h : mkVs mtx [oL 107 c107_oo x] k = _ := (mkc (mk_own hm107 hc107 _ _) (cnt_own hc107 _) (show mkVs mtx [] _ = [] from rfl))
  refine h.trans ?_
  simp only [c42_ooo, me42, ce42, ce40, me40, Int.add_assoc, ← Int.natCast_add, Nat.add_assoc, Int.natCast_add]
theorem hc42 (x : List Y106) : cntVs (c42_ooo x) = ce42 x := by
  have h : cntVs [oL 107 c107_oo x] = _ := (cntc (cnt_own hc107 _) (show cntVs [] = 0 from rfl))
  refine (show cntVs (c42_ooo x) = _ from h).trans ?_
  simp only [ce42, ce40, me40, Nat.add_assoc, Nat.add_zero]
theorem dp42 (x : List Y106) : deepL (c42_ooo x) = true := (dpc (dpo dp107 _) rfl)
def cs42 (x : List Y106) : Nat := ce40 x
def ms42 (x : List Y106) (k : Int) : List Y106 := me40 x (k)
theorem hs42 (x : List Y106) (k : Int) : mkA mtx (c42_ooo x) k = c42_ooo (ms42 x k) := by
  have h : mkA mtx [oL 107 c107_oo x] k = _ := (mkao hm107 hc107 _ (show mkA mtx [] _ = [] from rfl))
  refine h.trans ?_
  simp only [c42_ooo, ms42, cs42, ce40, me40, Int.add_assoc, ← Int.natCast_add, Nat.add_assoc, Int.natCast_add]
theorem hz42 (x : List Y106) : cntA (c42_ooo x) = cs42 x := by
  have h : cntA [oL 107 c107_oo x] = _ := (cntao hc107 _ (show cntA [] = 0 from rfl))
  refine (show cntA (c42_ooo x) = _ from h).trans ?_
  simp only [cs42, ce40, me40, Nat.add_assoc, Nat.add_zero, Nat.zero_add]
theorem m_laws_markDatabase (x : List Y106) (k : Int) (h0 : 0 ≤ k) (h1 : k + cntA (c42_ooo x) ≤ mB) : MarkAt Try.prog 40 (.agg (c42_ooo x)) k (.agg (mkA mtx (c42_ooo x) k)) (k + cntA (c42_ooo x)) := by
  refine ⟨lit_hb lit40, fun w0 St v bs hO hnd hbs => ?_⟩
  obtain ⟨us, rfl, hO⟩ := hO
  refine calls_ms (rs := []) (vs := [.agg us.toArray, .int .i64 k]) lit40 (Nat.le_of_ble_eq_true rfl) ?_
  have hd : deepL (c42_ooo x) = true := dp42 x
  have hI0 := InvA.start (mt := mtx) (k := k) (t := 42) hO hd hbs
  refine ms_seq (ms_rgn (mo_box rfl (mo_asgc (mo_nil ?_))))
  have q0 : (c42_ooo x)[0]? = some (oL 107 c107_oo x) := rfl
  obtain ⟨u0, c0, d0⟩ := hI0.own hd hnd hbs q0 (m_laws_markTableS x (k + (cntA ((c42_ooo x).take 0) : Int)) (by omega) (cntA_bd q0 h1))
  refine ms_seq (ms_rgn (mo_fa tbOk rfl rfl rfl (mo_load tbOk rfl rfl rfl c0 (mo_move (t1_0 (k := k) (n := cntA ((c42_ooo x).take 0)) rfl) (mo_call (lit_hb lit113) (args2 rfl rfl) (d0.mono ?_))))))
  rintro e0 w1 ⟨rfl, hI1⟩
  refine ⟨_, rfl, mo_asg rfl (mo_nil ?_)⟩
  obtain ⟨hx, hy⟩ := hI1.done (Nat.le_of_ble_eq_true rfl)
  refine ms_seq (ms_rgn (mo_move rfl (mo_asg rfl (mo_nil ?_))))
  exact ms_ret ⟨.inl rfl, _, rfl, rfl, ⟨us, rfl, hx⟩, hy⟩
def laws_markDatabase (x : List Y106) (k : Int) : Option ((List Y106) × Int) := chk (0 ≤ k ∧ k + (cs42 x : Int) ≤ mB) (some (ms42 x k, k + cs42 x))
theorem laws_markDatabase_e {x : List Y106} {k : Int} (h0 : 0 ≤ k) (h1 : k + (cs42 x : Int) ≤ mB) : laws_markDatabase x k = some (ms42 x k, k + cs42 x) := chk_pos ⟨h0, h1⟩
theorem laws_markDatabase_m {x : List Y106} {k : Int} {r : (List Y106) × Int} (h : laws_markDatabase x k = some r) : MarkAt Try.prog 40 (.agg (c42_ooo x)) k (.agg (c42_ooo r.1)) r.2 := by
  obtain ⟨⟨h0, h1⟩, h⟩ := chk_some h
  have hr := Option.some.inj h
  subst hr
  have e := m_laws_markDatabase x k h0 (by rw [hz42]; exact h1)
  rw [hs42, hz42] at e
  exact e
end Go.Proofs.Ytmioifafgbjjhaa
