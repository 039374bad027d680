/-
  What the functions that mark do: contracts and typed functions, printed by genmark.py. No conditions.
-/
import Derived.Test.YtmioifafgbjjhaaMxAS1
namespace Go.Proofs.Ytmioifafgbjjhaa
open Go.RowKit
set_option linter.unusedVariables false
set_option linter.unusedSimpArgs false
set_option maxRecDepth 100000
def c31_d (x : List Int) : List V := [dL ci64 x]
theorem zc31_d (x : List Int) : (c31_d x).length = 1 := rfl
theorem ec31_d (x : List Int) : erL (c31_d x) = c31_d x := (erc (erD eci64 _) rfl)
def c31_o (x : List Int) : List V := [oL 3 ci64 x]
theorem zc31_o (x : List Int) : (c31_o x).length = 1 := rfl
theorem ec31_o (x : List Int) : erL (c31_o x) = c31_d x := (erc (erO eci64 _) rfl)
def c24_dd (x : List (List Int)) : List V := [dL c31_d x]
theorem zc24_dd (x : List (List Int)) : (c24_dd x).length = 1 := rfl
theorem ec24_dd (x : List (List Int)) : erL (c24_dd x) = c24_dd x := (erc (erD ec31_d _) rfl)
def c24_oo (x : List (List Int)) : List V := [oL 31 c31_o x]
theorem zc24_oo (x : List (List Int)) : (c24_oo x).length = 1 := rfl
theorem ec24_oo (x : List (List Int)) : erL (c24_oo x) = c24_dd x := (erc (erO ec31_o _) rfl)
abbrev Y25 := Int × (List (List Int))
def c26_dd (x : Y25) : List V := [nI x.1, dL c31_d x.2]
theorem zc26_dd (x : Y25) : (c26_dd x).length = 2 := rfl
theorem ec26_dd (x : Y25) : erL (c26_dd x) = c26_dd x := (erc rfl (erc (erD ec31_d _) rfl))
def c26_oo (x : Y25) : List V := [nI x.1, oL 31 c31_o x.2]
theorem zc26_oo (x : Y25) : (c26_oo x).length = 2 := rfl
theorem ec26_oo (x : Y25) : erL (c26_oo x) = c26_dd x := (erc rfl (erc (erO ec31_o _) rfl))
abbrev Y106 := (List UInt8) × Y25
def c107_dd (x : Y106) : List V := [.str x.1, nI x.2.1, dL c31_d x.2.2]
theorem zc107_dd (x : Y106) : (c107_dd x).length = 3 := rfl
theorem ec107_dd (x : Y106) : erL (c107_dd x) = c107_dd x := (erc rfl (erc rfl (erc (erD ec31_d _) rfl)))
def c107_oo (x : Y106) : List V := [.str x.1, nI x.2.1, oL 31 c31_o x.2.2]
theorem zc107_oo (x : Y106) : (c107_oo x).length = 3 := rfl
theorem ec107_oo (x : Y106) : erL (c107_oo x) = c107_dd x := (erc rfl (erc rfl (erc (erO ec31_o _) rfl)))
def c40_ddd (x : List Y106) : List V := [dL c107_dd x]
theorem zc40_ddd (x : List Y106) : (c40_ddd x).length = 1 := rfl
theorem ec40_ddd (x : List Y106) : erL (c40_ddd x) = c40_ddd x := (erc (erD ec107_dd _) rfl)
def c40_ooo (x : List Y106) : List V := [oL 107 c107_oo x]
theorem zc40_ooo (x : List Y106) : (c40_ooo x).length = 1 := rfl
theorem ec40_ooo (x : List Y106) : erL (c40_ooo x) = c40_ddd x := (erc (erO ec107_oo _) rfl)
def c42_ddd (x : List Y106) : List V := [dL c107_dd x]
theorem zc42_ddd (x : List Y106) : (c42_ddd x).length = 1 := rfl
theorem ec42_ddd (x : List Y106) : erL (c42_ddd x) = c42_ddd x := (erc (erD ec107_dd _) rfl)
def c42_ooo (x : List Y106) : List V := [oL 107 c107_oo x]
theorem zc42_ooo (x : List Y106) : (c42_ooo x).length = 1 := rfl
theorem ec42_ooo (x : List Y106) : erL (c42_ooo x) = c42_ddd x := (erc (erO ec107_oo _) rfl)
def c68_dddd (x : List (List Y106)) : List V := [dL c42_ddd x]
theorem zc68_dddd (x : List (List Y106)) : (c68_dddd x).length = 1 := rfl
theorem ec68_dddd (x : List (List Y106)) : erL (c68_dddd x) = c68_dddd x := (erc (erD ec42_ddd _) rfl)
def c68_oooo (x : List (List Y106)) : List V := [oL 42 c42_ooo x]
theorem zc68_oooo (x : List (List Y106)) : (c68_oooo x).length = 1 := rfl
theorem ec68_oooo (x : List (List Y106)) : erL (c68_oooo x) = c68_dddd x := (erc (erO ec42_ooo _) rfl)
abbrev Y69 := Int × (List (List Y106))
def c70_dddd (x : Y69) : List V := [nI x.1, dL c42_ddd x.2]
theorem zc70_dddd (x : Y69) : (c70_dddd x).length = 2 := rfl
theorem ec70_dddd (x : Y69) : erL (c70_dddd x) = c70_dddd x := (erc rfl (erc (erD ec42_ddd _) rfl))
def c70_oooo (x : Y69) : List V := [nI x.1, oL 42 c42_ooo x.2]
theorem zc70_oooo (x : Y69) : (c70_oooo x).length = 2 := rfl
theorem ec70_oooo (x : Y69) : erL (c70_oooo x) = c70_dddd x := (erc rfl (erc (erO ec42_ooo _) rfl))
abbrev Y71 := (List UInt8) × Y25 × Y25
def c72_dddd (x : Y71) : List V := [.str x.1, nI x.2.1.1, dL c31_d x.2.1.2, nI x.2.2.1, dL c31_d x.2.2.2]
theorem zc72_dddd (x : Y71) : (c72_dddd x).length = 5 := rfl
theorem ec72_dddd (x : Y71) : erL (c72_dddd x) = c72_dddd x := (erc rfl (erc rfl (erc (erD ec31_d _) (erc rfl (erc (erD ec31_d _) rfl)))))
def c72_oooo (x : Y71) : List V := [.str x.1, nI x.2.1.1, oL 31 c31_o x.2.1.2, nI x.2.2.1, oL 31 c31_o x.2.2.2]
theorem zc72_oooo (x : Y71) : (c72_oooo x).length = 5 := rfl
theorem ec72_oooo (x : Y71) : erL (c72_oooo x) = c72_dddd x := (erc rfl (erc rfl (erc (erO ec31_o _) (erc rfl (erc (erO ec31_o _) rfl)))))
def ce31 (x : List Int) : Nat := cntL oneI x
def me31 (x : List Int) (k : Int) : List Int := mkL oneI markI x k
theorem hm31 (x : List Int) (k : Int) : mkVs mtx (c31_o x) k = c31_o (me31 x k) := by
  unfold c31_o me31
  exact mkc (mk_own hmI hcI x k) (cnt_own hcI x) rfl
theorem hc31 (x : List Int) : cntVs (c31_o x) = ce31 x := by
  unfold c31_o ce31
  exact cntc (cnt_own hcI x) rfl
theorem dp31 (x : List Int) : deepL (c31_o x) = true := dpc (dpo (fun _ => rfl) x) rfl
theorem r_laws_markIntS (l : List Int) (k : Int) (h0 : 0 ≤ k) (h1 : k + cntVs (l.flatMap ci64) ≤ mB) {body : LC} (hb : body = (.seq (.rgn [] [LL 12 (.move (.tmp 0)) 31,
      LL 13 (.move (.tmp 5)) 3,
      LL 14 (.move (.tmp 1)) 3,
      LL 15 (.indexAddr 31 (.tmp 12) (.tmp 13)) 0,
      ⟨none, (.store 3 (.tmp 15) (.tmp 14)), 0, none⟩])
    (.rgn [] [LL 16 (.move (.tmp 1)) 3,
      LL 17 (.binOp .add 3 (.tmp 16) (.const (.int .i64 1)) 3) 3,
      LL 1 (.assign (.tmp 17)) 3]))) : Round Try.prog 19 [] mtx 3 1 body l.length (l.flatMap ci64) k := by
  subst hb
  intro St w0 bs g cap j w T hnd hbs hj hI0 t0 t1 t5
  have hd : deepL (l.flatMap ci64) = true := deep_flat (fun _ => rfl) l
  have hI0 : Inv Try.prog St mtx 3 l.length (l.flatMap ci64) k (.slice (some ⟨g, 0, none⟩) l.length cap) bs w0 (j * 1 + 0) w := hI0
  have t1 : T 1 = some (.int .i64 (k + (cntP (l.flatMap ci64) (j * 1 + 0) : Int))) := t1
  have q0 : (l.flatMap ci64)[j * 1 + 0]? = some (nI (l[j])) := (flat_at zci64 hj (by decide)).trans rfl
  have b0 := cnt_bd q0 h1
  rw [show cntV (nI (l[j])) = 1 from rfl] at b0
  have x0 : k + (cntP (l.flatMap ci64) (j * 1 + 0) : Int) + 1 = k + (cntP (l.flatMap ci64) (j * 1 + 1) : Int) := cnt_s1 (k := k) q0 rfl
  have n0 : 0 ≤ k + (cntP (l.flatMap ci64) (j * 1 + 0) : Int) := cnt_nn h0
  obtain ⟨u0, c0, f0, hI1⟩ := hI0.int' hd hnd q0
  refine ms_seq (ms_rgn (mo_move t0 (mo_move t5 (mo_move t1 (mo_ia tbOk rfl rfl rfl hj (mo_store tbOk rfl rfl rfl rfl c0 f0 rfl (mo_nil ?_)))))))
  generalize hw1 : World.setCell _ _ _ = w1 at hI1 ⊢
  refine ms_rgn (mo_move t1 (mo_add rfl (by omega) (by unfold mB at b0; omega) (mo_asg rfl (mo_nil ?_))))
  rw [x0]
  exact ⟨rfl, t0, rfl, t5, hI1⟩
theorem m_laws_markIntS (l : List Int) (k : Int) (h0 : 0 ≤ k) (h1 : k + cntVs (l.flatMap ci64) ≤ mB) : MarkAt Try.prog 39 (.own 3 l.length (l.flatMap ci64)) k (.own 3 l.length (mkVs mtx (l.flatMap ci64) k)) (k + cntVs (l.flatMap ci64)) :=
  mark_slice tbOk (r := 18) (ty := 31) (it := 3) (bt := 4) lit39 (by decide) rfl (flat_len zci64 l) (by decide) (r_laws_markIntS l k h0 h1 rfl)
def laws_markIntS (x : List Int) (k : Int) : Option ((List Int) × Int) := chk (0 ≤ k ∧ k + (ce31 x : Int) ≤ mB) (some (me31 x k, k + ce31 x))
theorem laws_markIntS_e {x : List Int} {k : Int} (h0 : 0 ≤ k) (h1 : k + (ce31 x : Int) ≤ mB) : laws_markIntS x k = some (me31 x k, k + ce31 x) := chk_pos ⟨h0, h1⟩
theorem laws_markIntS_m {x : List Int} {k : Int} {r : (List Int) × Int} (h : laws_markIntS x k = some r) : MarkAt Try.prog 39 (oL 3 ci64 x) k (oL 3 ci64 r.1) r.2 := by
  obtain ⟨⟨h0, h1⟩, h⟩ := chk_some h
  have hr := Option.some.inj h
  subst hr
  have hx := cntVs_flat (f := ci64) (cnt := oneI) hcI x
  have e := m_laws_markIntS x k h0 (by rw [hx]; exact h1)
  rw [mkVs_flat (f := ci64) (cnt := oneI) (mk := markI) hmI hcI, hx] at e
  show MarkAt Try.prog 39 _ k (.own 3 (mkL oneI markI x k).length ((mkL oneI markI x k).flatMap ci64)) (k + (cntL oneI x : Int))
  rw [mkL_length]
  exact e
def ce24 (x : List (List Int)) : Nat := cntL ce31 x
def me24 (x : List (List Int)) (k : Int) : List (List Int) := mkL ce31 me31 x k
theorem hm24 (x : List (List Int)) (k : Int) : mkVs mtx (c24_oo x) k = c24_oo (me24 x k) := by
  unfold c24_oo me24
  exact mkc (mk_own hm31 hc31 x k) (cnt_own hc31 x) rfl
theorem hc24 (x : List (List Int)) : cntVs (c24_oo x) = ce24 x := by
  unfold c24_oo ce24
  exact cntc (cnt_own hc31 x) rfl
theorem dp24 (x : List (List Int)) : deepL (c24_oo x) = true := dpc (dpo dp31 x) rfl
theorem r_laws_markIntSS (l : List (List Int)) (k : Int) (h0 : 0 ≤ k) (h1 : k + cntVs (l.flatMap c31_o) ≤ mB) {body : LC} (hb : body = (.rgn [] [LL 12 (.move (.tmp 0)) 24,
      LL 13 (.move (.tmp 5)) 3,
      LL 14 (.indexAddr 24 (.tmp 12) (.tmp 13)) 0,
      LL 15 (.load 31 (.tmp 14)) 31,
      LL 16 (.move (.tmp 1)) 3,
      LL 17 (.call { callee := (.value (.func 39)), args := #[(.tmp 15), (.tmp 16)], argTypes := #[31, 3] }) 3,
      LL 1 (.assign (.tmp 17)) 3])) : Round Try.prog 19 [] mtx 31 1 body l.length (l.flatMap c31_o) k := by
  subst hb
  intro St w0 bs g cap j w T hnd hbs hj hI0 t0 t1 t5
  have hd : deepL (l.flatMap c31_o) = true := deep_flat dp31 l
  have hI0 : Inv Try.prog St mtx 31 l.length (l.flatMap c31_o) k (.slice (some ⟨g, 0, none⟩) l.length cap) bs w0 (j * 1 + 0) w := hI0
  have t1 : T 1 = some (.int .i64 (k + (cntP (l.flatMap c31_o) (j * 1 + 0) : Int))) := t1
  have q0 : (l.flatMap c31_o)[j * 1 + 0]? = some (oL 3 ci64 (l[j])) := (flat_at zc31_o hj (by decide)).trans rfl
  have b0 := cnt_bd q0 h1
  have n0 : 0 ≤ k + (cntP (l.flatMap c31_o) (j * 1 + 0) : Int) := cnt_nn h0
  have k0 := m_laws_markIntS (l[j]) (k + (cntP (l.flatMap c31_o) (j * 1 + 0) : Int)) n0 b0
  obtain ⟨u0, c0, d0⟩ := hI0.own' hd hnd hbs q0 k0
  have d0 : Calls Try.prog 39 #[u0, .int .i64 (k + (cntP (l.flatMap c31_o) (j * 1 + 0) : Int))] w (fun e' w' => e' = .returned (.int .i64 (k + (cntP (l.flatMap c31_o) (j * 1 + 1) : Int))) ∧ Inv Try.prog St mtx 31 l.length (l.flatMap c31_o) k (.slice (some ⟨g, 0, none⟩) l.length cap) bs w0 (j * 1 + 1) w') := d0
  refine ms_rgn (mo_move t0 (mo_move t5 (mo_ia tbOk rfl rfl rfl hj (mo_load tbOk rfl rfl rfl c0 (mo_move t1 (mo_call (lit_hb lit39) (args2 rfl rfl) (d0.mono ?_)))))))
  rintro e0 w1 ⟨rfl, hI1⟩
  refine ⟨_, rfl, mo_asg rfl (mo_nil ?_)⟩
  exact ⟨rfl, t0, rfl, t5, hI1⟩
theorem m_laws_markIntSS (l : List (List Int)) (k : Int) (h0 : 0 ≤ k) (h1 : k + cntVs (l.flatMap c31_o) ≤ mB) : MarkAt Try.prog 184 (.own 31 l.length (l.flatMap c31_o)) k (.own 31 l.length (mkVs mtx (l.flatMap c31_o) k)) (k + cntVs (l.flatMap c31_o)) :=
  mark_slice tbOk (r := 18) (ty := 24) (it := 3) (bt := 4) lit184 (by decide) rfl (flat_len zc31_o l) (by decide) (r_laws_markIntSS l k h0 h1 rfl)
def laws_markIntSS (x : List (List Int)) (k : Int) : Option ((List (List Int)) × Int) := chk (0 ≤ k ∧ k + (ce24 x : Int) ≤ mB) (some (me24 x k, k + ce24 x))
theorem laws_markIntSS_e {x : List (List Int)} {k : Int} (h0 : 0 ≤ k) (h1 : k + (ce24 x : Int) ≤ mB) : laws_markIntSS x k = some (me24 x k, k + ce24 x) := chk_pos ⟨h0, h1⟩
theorem laws_markIntSS_m {x : List (List Int)} {k : Int} {r : (List (List Int)) × Int} (h : laws_markIntSS x k = some r) : MarkAt Try.prog 184 (oL 31 c31_o x) k (oL 31 c31_o r.1) r.2 := by
  obtain ⟨⟨h0, h1⟩, h⟩ := chk_some h
  have hr := Option.some.inj h
  subst hr
  have hx := cntVs_flat (f := c31_o) (cnt := ce31) hc31 x
  have e := m_laws_markIntSS x k h0 (by rw [hx]; exact h1)
  rw [mkVs_flat (f := c31_o) (cnt := ce31) (mk := me31) hm31 hc31, hx] at e
  show MarkAt Try.prog 184 _ k (.own 31 (mkL ce31 me31 x k).length ((mkL ce31 me31 x k).flatMap c31_o)) (k + (cntL ce31 x : Int))
  rw [mkL_length]
  exact e
def ce26 (x : Y25) : Nat := (1) + (ce24 x.2)
def me26 (x : Y25) (k : Int) : Y25 := ((k), me24 x.2 (k + ((1 : Nat) : Int)))
theorem hm26 (x : Y25) (k : Int) : mkVs mtx (c26_oo x) k = c26_oo (me26 x k) := by
  have h : mkVs mtx [nI x.1, oL 31 c31_o x.2] k = _ := (mkc (n := 1) (c' := V.int .i64 _) rfl rfl (mkc (mk_own hm31 hc31 _ _) (cnt_own hc31 _) (show mkVs mtx [] _ = [] from rfl)))
  refine h.trans ?_
  simp only [c26_oo, me26, ce26, ce24, me24, Int.add_assoc, ← Int.natCast_add, Nat.add_assoc, Int.natCast_add]
theorem hc26 (x : Y25) : cntVs (c26_oo x) = ce26 x := by
  have h : cntVs [nI x.1, oL 31 c31_o x.2] = _ := (cntc (n := 1) rfl (cntc (cnt_own hc31 _) (show cntVs [] = 0 from rfl)))
  refine (show cntVs (c26_oo x) = _ from h).trans ?_
  simp only [ce26, ce24, me24, Nat.add_assoc, Nat.add_zero]
theorem dp26 (x : Y25) : deepL (c26_oo x) = true := (dpc rfl (dpc (dpo dp31 _) rfl))
def ce107 (x : Y106) : Nat := (1) + (ce26 x.2)
def me107 (x : Y106) (k : Int) : Y106 := (mtx (k), me26 x.2 (k + ((1 : Nat) : Int)))
theorem hm107 (x : Y106) (k : Int) : mkVs mtx (c107_oo x) k = c107_oo (me107 x k) := by
  have h : mkVs mtx [.str x.1, nI x.2.1, oL 31 c31_o x.2.2] k = _ := (mkc (n := 1) (c' := V.str _) rfl rfl (mkc (n := 1) (c' := V.int .i64 _) rfl rfl (mkc (mk_own hm31 hc31 _ _) (cnt_own hc31 _) (show mkVs mtx [] _ = [] from rfl))))
  refine h.trans ?_
  simp only [c107_oo, me107, ce107, c26_oo, ce24, ce26, me24, me26, Int.add_assoc, ← Int.natCast_add, Nat.add_assoc, Int.natCast_add]
theorem hc107 (x : Y106) : cntVs (c107_oo x) = ce107 x := by
  have h : cntVs [.str x.1, nI x.2.1, oL 31 c31_o x.2.2] = _ := (cntc (n := 1) rfl (cntc (n := 1) rfl (cntc (cnt_own hc31 _) (show cntVs [] = 0 from rfl))))
  refine (show cntVs (c107_oo x) = _ from h).trans ?_
  simp only [ce107, c26_oo, ce24, ce26, me24, me26, Nat.add_assoc, Nat.add_zero]
theorem dp107 (x : Y106) : deepL (c107_oo x) = true := (dpc rfl (dpc rfl (dpc (dpo dp31 _) rfl)))
def ce40 (x : List Y106) : Nat := cntL ce107 x
def me40 (x : List Y106) (k : Int) : List Y106 := mkL ce107 me107 x k
theorem hm40 (x : List Y106) (k : Int) : mkVs mtx (c40_ooo x) k = c40_ooo (me40 x k) := by
  unfold c40_ooo me40
  exact mkc (mk_own hm107 hc107 x k) (cnt_own hc107 x) rfl
theorem hc40 (x : List Y106) : cntVs (c40_ooo x) = ce40 x := by
  unfold c40_ooo ce40
  exact cntc (cnt_own hc107 x) rfl
theorem dp40 (x : List Y106) : deepL (c40_ooo x) = true := dpc (dpo dp107 x) rfl
theorem r_laws_markTableS (l : List Y106) (k : Int) (h0 : 0 ≤ k) (h1 : k + cntVs (l.flatMap c107_oo) ≤ mB) {body : LC} (hb : body = (.seq (.rgn [] [LL 12 (.move (.tmp 0)) 40,
      LL 13 (.move (.tmp 5)) 3,
      LL 14 (.move (.tmp 1)) 3,
      LL 15 (.call { callee := (.value (.func 183)), args := #[(.tmp 14)], argTypes := #[3] }) 9,
      LL 16 (.indexAddr 40 (.tmp 12) (.tmp 13)) 0,
      LL 17 (.fieldAddr 107 (.tmp 16) 0) 0,
      ⟨none, (.store 9 (.tmp 17) (.tmp 15)), 0, none⟩])
    (.seq (.rgn [] [LL 18 (.move (.tmp 1)) 3,
      LL 19 (.binOp .add 3 (.tmp 18) (.const (.int .i64 1)) 3) 3,
      LL 1 (.assign (.tmp 19)) 3])
    (.seq (.rgn [] [LL 20 (.move (.tmp 0)) 40,
      LL 21 (.move (.tmp 5)) 3,
      LL 22 (.move (.tmp 1)) 3,
      LL 23 (.indexAddr 40 (.tmp 20) (.tmp 21)) 0,
      LL 24 (.fieldAddr 107 (.tmp 23) 1) 0,
      LL 25 (.fieldAddr 26 (.tmp 24) 0) 0,
      ⟨none, (.store 3 (.tmp 25) (.tmp 22)), 0, none⟩])
    (.seq (.rgn [] [LL 26 (.move (.tmp 1)) 3,
      LL 27 (.binOp .add 3 (.tmp 26) (.const (.int .i64 1)) 3) 3,
      LL 1 (.assign (.tmp 27)) 3])
    (.rgn [] [LL 28 (.move (.tmp 0)) 40,
      LL 29 (.move (.tmp 5)) 3,
      LL 30 (.indexAddr 40 (.tmp 28) (.tmp 29)) 0,
      LL 31 (.fieldAddr 107 (.tmp 30) 1) 0,
      LL 32 (.fieldAddr 26 (.tmp 31) 1) 0,
      LL 33 (.load 24 (.tmp 32)) 24,
      LL 34 (.move (.tmp 1)) 3,
      LL 35 (.call { callee := (.value (.func 184)), args := #[(.tmp 33), (.tmp 34)], argTypes := #[24, 3] }) 3,
      LL 1 (.assign (.tmp 35)) 3])))))) : Round Try.prog 37 [] mtx 107 3 body l.length (l.flatMap c107_oo) k := by
  subst hb
  intro St w0 bs g cap j w T hnd hbs hj hI0 t0 t1 t5
  have hd : deepL (l.flatMap c107_oo) = true := deep_flat dp107 l
  have hI0 : Inv Try.prog St mtx 107 l.length (l.flatMap c107_oo) k (.slice (some ⟨g, 0, none⟩) l.length cap) bs w0 (j * 3 + 0) w := hI0
  have t1 : T 1 = some (.int .i64 (k + (cntP (l.flatMap c107_oo) (j * 3 + 0) : Int))) := t1
  have q0 : (l.flatMap c107_oo)[j * 3 + 0]? = some (.str ((l[j]).1)) := (flat_at zc107_oo hj (by decide)).trans rfl
  have b0 := cnt_bd q0 h1
  rw [show cntV (.str ((l[j]).1)) = 1 from rfl] at b0
  have x0 : k + (cntP (l.flatMap c107_oo) (j * 3 + 0) : Int) + 1 = k + (cntP (l.flatMap c107_oo) (j * 3 + 1) : Int) := cnt_s1 (k := k) q0 rfl
  have n0 : 0 ≤ k + (cntP (l.flatMap c107_oo) (j * 3 + 0) : Int) := cnt_nn h0
  have q1 : (l.flatMap c107_oo)[j * 3 + 1]? = some (nI (((l[j]).2).1)) := (flat_at zc107_oo hj (by decide)).trans rfl
  have b1 := cnt_bd q1 h1
  rw [show cntV (nI (((l[j]).2).1)) = 1 from rfl] at b1
  have x1 : k + (cntP (l.flatMap c107_oo) (j * 3 + 1) : Int) + 1 = k + (cntP (l.flatMap c107_oo) (j * 3 + 2) : Int) := cnt_s1 (k := k) q1 rfl
  have n1 : 0 ≤ k + (cntP (l.flatMap c107_oo) (j * 3 + 1) : Int) := cnt_nn h0
  have q2 : (l.flatMap c107_oo)[j * 3 + 2]? = some (oL 31 c31_o (((l[j]).2).2)) := (flat_at zc107_oo hj (by decide)).trans rfl
  have b2 := cnt_bd q2 h1
  have n2 : 0 ≤ k + (cntP (l.flatMap c107_oo) (j * 3 + 2) : Int) := cnt_nn h0
  refine ms_seq (ms_rgn (mo_move t0 (mo_move t5 (mo_move t1 (mo_call mtx_hb (args1 rfl) ((mtx_calls n0 (by omega) w).mono ?_))))))
  rintro e0 w1 ⟨rfl, z0⟩
  have hI0 := hI0.grow hd hbs z0
  obtain ⟨u0, c0, f0, hI1⟩ := hI0.str' hd hnd q0 (mtx_len n0 (by omega))
  refine ⟨_, rfl, mo_ia tbOk rfl rfl rfl hj (mo_fa tbOk rfl rfl rfl (mo_store tbOk rfl rfl rfl rfl c0 f0 rfl (mo_nil ?_)))⟩
  generalize hw2 : World.setCell _ _ _ = w2 at hI1 ⊢
  refine ms_seq (ms_rgn (mo_move t1 (mo_add rfl (by omega) (by unfold mB at b0; omega) (mo_asg rfl (mo_nil ?_)))))
  rw [x0]
  obtain ⟨u1, c1, f1, hI2⟩ := hI1.int' hd hnd q1
  refine ms_seq (ms_rgn (mo_move t0 (mo_move t5 (mo_move rfl (mo_ia tbOk rfl rfl rfl hj (mo_fa tbOk rfl rfl rfl (mo_fa tbOk rfl rfl rfl (mo_store tbOk rfl rfl rfl rfl c1 f1 rfl (mo_nil ?_)))))))))
  generalize hw3 : World.setCell _ _ _ = w3 at hI2 ⊢
  refine ms_seq (ms_rgn (mo_move rfl (mo_add rfl (by omega) (by unfold mB at b1; omega) (mo_asg rfl (mo_nil ?_)))))
  rw [x1]
  have k2 := m_laws_markIntSS (((l[j]).2).2) (k + (cntP (l.flatMap c107_oo) (j * 3 + 2) : Int)) n2 b2
  obtain ⟨u2, c2, d2⟩ := hI2.own' hd hnd hbs q2 k2
  have d2 : Calls Try.prog 184 #[u2, .int .i64 (k + (cntP (l.flatMap c107_oo) (j * 3 + 2) : Int))] w3 (fun e' w' => e' = .returned (.int .i64 (k + (cntP (l.flatMap c107_oo) (j * 3 + 3) : Int))) ∧ Inv Try.prog St mtx 107 l.length (l.flatMap c107_oo) k (.slice (some ⟨g, 0, none⟩) l.length cap) bs w0 (j * 3 + 3) w') := d2
  refine ms_rgn (mo_move t0 (mo_move t5 (mo_ia tbOk rfl rfl rfl hj (mo_fa tbOk rfl rfl rfl (mo_fa tbOk rfl rfl rfl (mo_load tbOk rfl rfl rfl c2 (mo_move rfl (mo_call (lit_hb lit184) (args2 rfl rfl) (d2.mono ?_)))))))))
  rintro e2 w4 ⟨rfl, hI3⟩
  refine ⟨_, rfl, mo_asg rfl (mo_nil ?_)⟩
  exact ⟨rfl, t0, rfl, t5, hI3⟩
theorem m_laws_markTableS (l : List Y106) (k : Int) (h0 : 0 ≤ k) (h1 : k + cntVs (l.flatMap c107_oo) ≤ mB) : MarkAt Try.prog 113 (.own 107 l.length (l.flatMap c107_oo)) k (.own 107 l.length (mkVs mtx (l.flatMap c107_oo) k)) (k + cntVs (l.flatMap c107_oo)) :=
  mark_slice tbOk (r := 36) (ty := 40) (it := 3) (bt := 4) lit113 (by decide) rfl (flat_len zc107_oo l) (by decide) (r_laws_markTableS l k h0 h1 rfl)
def laws_markTableS (x : List Y106) (k : Int) : Option ((List Y106) × Int) := chk (0 ≤ k ∧ k + (ce40 x : Int) ≤ mB) (some (me40 x k, k + ce40 x))
theorem laws_markTableS_e {x : List Y106} {k : Int} (h0 : 0 ≤ k) (h1 : k + (ce40 x : Int) ≤ mB) : laws_markTableS x k = some (me40 x k, k + ce40 x) := chk_pos ⟨h0, h1⟩
theorem laws_markTableS_m {x : List Y106} {k : Int} {r : (List Y106) × Int} (h : laws_markTableS x k = some r) : MarkAt Try.prog 113 (oL 107 c107_oo x) k (oL 107 c107_oo r.1) r.2 := by
  obtain ⟨⟨h0, h1⟩, h⟩ := chk_some h
  have hr := Option.some.inj h
  subst hr
  have hx := cntVs_flat (f := c107_oo) (cnt := ce107) hc107 x
  have e := m_laws_markTableS x k h0 (by rw [hx]; exact h1)
  rw [mkVs_flat (f := c107_oo) (cnt := ce107) (mk := me107) hm107 hc107, hx] at e
  show MarkAt Try.prog 113 _ k (.own 107 (mkL ce107 me107 x k).length ((mkL ce107 me107 x k).flatMap c107_oo)) (k + (cntL ce107 x : Int))
  rw [mkL_length]
  exact e
def ce42 (x : List Y106) : Nat := (ce40 x)
def me42 (x : List Y106) (k : Int) : List Y106 := (me40 x (k))
theorem hm42 (x : List Y106) (k : Int) : mkVs mtx (c42_ooo x) k = c42_ooo (me42 x k) := by
  have h : mkVs mtx [oL 107 c107_oo x] k = _ := (mkc (mk_own hm107 hc107 _ _) (cnt_own hc107 _) (show mkVs mtx [] _ = [] from rfl))
  refine h.trans ?_
  simp only [c42_ooo, me42, ce42, ce40, me40, Int.add_assoc, ← Int.natCast_add, Nat.add_assoc, Int.natCast_add]
theorem hc42 (x : List Y106) : cntVs (c42_ooo x) = ce42 x := by
  have h : cntVs [oL 107 c107_oo x] = _ := (cntc (cnt_own hc107 _) (show cntVs [] = 0 from rfl))
  refine (show cntVs (c42_ooo x) = _ from h).trans ?_
  simp only [ce42, ce40, me40, Nat.add_assoc, Nat.add_zero]
theorem dp42 (x : List Y106) : deepL (c42_ooo x) = true := (dpc (dpo dp107 _) rfl)
def ce68 (x : List (List Y106)) : Nat := cntL ce42 x
def me68 (x : List (List Y106)) (k : Int) : List (List Y106) := mkL ce42 me42 x k
theorem hm68 (x : List (List Y106)) (k : Int) : mkVs mtx (c68_oooo x) k = c68_oooo (me68 x k) := by
  unfold c68_oooo me68
  exact mkc (mk_own hm42 hc42 x k) (cnt_own hc42 x) rfl
theorem hc68 (x : List (List Y106)) : cntVs (c68_oooo x) = ce68 x := by
  unfold c68_oooo ce68
  exact cntc (cnt_own hc42 x) rfl
theorem dp68 (x : List (List Y106)) : deepL (c68_oooo x) = true := dpc (dpo dp42 x) rfl
theorem r_laws_markDatabaseS (l : List (List Y106)) (k : Int) (h0 : 0 ≤ k) (h1 : k + cntVs (l.flatMap c42_ooo) ≤ mB) {body : LC} (hb : body = (.rgn [] [LL 12 (.move (.tmp 0)) 68,
      LL 13 (.move (.tmp 5)) 3,
      LL 14 (.indexAddr 68 (.tmp 12) (.tmp 13)) 0,
      LL 15 (.fieldAddr 42 (.tmp 14) 0) 0,
      LL 16 (.load 40 (.tmp 15)) 40,
      LL 17 (.move (.tmp 1)) 3,
      LL 18 (.call { callee := (.value (.func 113)), args := #[(.tmp 16), (.tmp 17)], argTypes := #[40, 3] }) 3,
      LL 1 (.assign (.tmp 18)) 3])) : Round Try.prog 20 [] mtx 42 1 body l.length (l.flatMap c42_ooo) k := by
  subst hb
  intro St w0 bs g cap j w T hnd hbs hj hI0 t0 t1 t5
  have hd : deepL (l.flatMap c42_ooo) = true := deep_flat dp42 l
  have hI0 : Inv Try.prog St mtx 42 l.length (l.flatMap c42_ooo) k (.slice (some ⟨g, 0, none⟩) l.length cap) bs w0 (j * 1 + 0) w := hI0
  have t1 : T 1 = some (.int .i64 (k + (cntP (l.flatMap c42_ooo) (j * 1 + 0) : Int))) := t1
  have q0 : (l.flatMap c42_ooo)[j * 1 + 0]? = some (oL 107 c107_oo (l[j])) := (flat_at zc42_ooo hj (by decide)).trans rfl
  have b0 := cnt_bd q0 h1
  have n0 : 0 ≤ k + (cntP (l.flatMap c42_ooo) (j * 1 + 0) : Int) := cnt_nn h0
  have k0 := m_laws_markTableS (l[j]) (k + (cntP (l.flatMap c42_ooo) (j * 1 + 0) : Int)) n0 b0
  obtain ⟨u0, c0, d0⟩ := hI0.own' hd hnd hbs q0 k0
  have d0 : Calls Try.prog 113 #[u0, .int .i64 (k + (cntP (l.flatMap c42_ooo) (j * 1 + 0) : Int))] w (fun e' w' => e' = .returned (.int .i64 (k + (cntP (l.flatMap c42_ooo) (j * 1 + 1) : Int))) ∧ Inv Try.prog St mtx 42 l.length (l.flatMap c42_ooo) k (.slice (some ⟨g, 0, none⟩) l.length cap) bs w0 (j * 1 + 1) w') := d0
  refine ms_rgn (mo_move t0 (mo_move t5 (mo_ia tbOk rfl rfl rfl hj (mo_fa tbOk rfl rfl rfl (mo_load tbOk rfl rfl rfl c0 (mo_move t1 (mo_call (lit_hb lit113) (args2 rfl rfl) (d0.mono ?_))))))))
  rintro e0 w1 ⟨rfl, hI1⟩
  refine ⟨_, rfl, mo_asg rfl (mo_nil ?_)⟩
  exact ⟨rfl, t0, rfl, t5, hI1⟩
theorem m_laws_markDatabaseS (l : List (List Y106)) (k : Int) (h0 : 0 ≤ k) (h1 : k + cntVs (l.flatMap c42_ooo) ≤ mB) : MarkAt Try.prog 132 (.own 42 l.length (l.flatMap c42_ooo)) k (.own 42 l.length (mkVs mtx (l.flatMap c42_ooo) k)) (k + cntVs (l.flatMap c42_ooo)) :=
  mark_slice tbOk (r := 19) (ty := 68) (it := 3) (bt := 4) lit132 (by decide) rfl (flat_len zc42_ooo l) (by decide) (r_laws_markDatabaseS l k h0 h1 rfl)
def laws_markDatabaseS (x : List (List Y106)) (k : Int) : Option ((List (List Y106)) × Int) := chk (0 ≤ k ∧ k + (ce68 x : Int) ≤ mB) (some (me68 x k, k + ce68 x))
theorem laws_markDatabaseS_e {x : List (List Y106)} {k : Int} (h0 : 0 ≤ k) (h1 : k + (ce68 x : Int) ≤ mB) : laws_markDatabaseS x k = some (me68 x k, k + ce68 x) := chk_pos ⟨h0, h1⟩
theorem laws_markDatabaseS_m {x : List (List Y106)} {k : Int} {r : (List (List Y106)) × Int} (h : laws_markDatabaseS x k = some r) : MarkAt Try.prog 132 (oL 42 c42_ooo x) k (oL 42 c42_ooo r.1) r.2 := by
  obtain ⟨⟨h0, h1⟩, h⟩ := chk_some h
  have hr := Option.some.inj h
  subst hr
  have hx := cntVs_flat (f := c42_ooo) (cnt := ce42) hc42 x
  have e := m_laws_markDatabaseS x k h0 (by rw [hx]; exact h1)
  rw [mkVs_flat (f := c42_ooo) (cnt := ce42) (mk := me42) hm42 hc42, hx] at e
  show MarkAt Try.prog 132 _ k (.own 42 (mkL ce42 me42 x k).length ((mkL ce42 me42 x k).flatMap c42_ooo)) (k + (cntL ce42 x : Int))
  rw [mkL_length]
  exact e
def ce70 (x : Y69) : Nat := (1) + (ce68 x.2)
def me70 (x : Y69) (k : Int) : Y69 := ((k), me68 x.2 (k + ((1 : Nat) : Int)))
theorem hm70 (x : Y69) (k : Int) : mkVs mtx (c70_oooo x) k = c70_oooo (me70 x k) := by
  have h : mkVs mtx [nI x.1, oL 42 c42_ooo x.2] k = _ := (mkc (n := 1) (c' := V.int .i64 _) rfl rfl (mkc (mk_own hm42 hc42 _ _) (cnt_own hc42 _) (show mkVs mtx [] _ = [] from rfl)))
  refine h.trans ?_
  simp only [c70_oooo, me70, ce70, ce68, me68, Int.add_assoc, ← Int.natCast_add, Nat.add_assoc, Int.natCast_add]
theorem hc70 (x : Y69) : cntVs (c70_oooo x) = ce70 x := by
  have h : cntVs [nI x.1, oL 42 c42_ooo x.2] = _ := (cntc (n := 1) rfl (cntc (cnt_own hc42 _) (show cntVs [] = 0 from rfl)))
  refine (show cntVs (c70_oooo x) = _ from h).trans ?_
  simp only [ce70, ce68, me68, Nat.add_assoc, Nat.add_zero]
theorem dp70 (x : Y69) : deepL (c70_oooo x) = true := (dpc rfl (dpc (dpo dp42 _) rfl))
def cs70 (x : Y69) : Nat := ce68 x.2
def ms70 (x : Y69) (k : Int) : Y69 := (x.1, me68 x.2 (k))
theorem hs70 (x : Y69) (k : Int) : mkA mtx (c70_oooo x) k = c70_oooo (ms70 x k) := by
  have h : mkA mtx [nI x.1, oL 42 c42_ooo x.2] k = _ := (mka (fun _ _ => rfl) (mkao hm42 hc42 _ (show mkA mtx [] _ = [] from rfl)))
  refine h.trans ?_
  simp only [c70_oooo, ms70, cs70, ce68, me68, Int.add_assoc, ← Int.natCast_add, Nat.add_assoc, Int.natCast_add]
theorem hz70 (x : Y69) : cntA (c70_oooo x) = cs70 x := by
  have h : cntA [nI x.1, oL 42 c42_ooo x.2] = _ := (cnta (fun _ => rfl) (cntao hc42 _ (show cntA [] = 0 from rfl)))
  refine (show cntA (c70_oooo x) = _ from h).trans ?_
  simp only [cs70, ce68, me68, Nat.add_assoc, Nat.add_zero, Nat.zero_add]
theorem m_laws_markHistory (x : Y69) (k : Int) (h0 : 0 ≤ k) (h1 : k + cntA (c70_oooo x) ≤ mB) : MarkAt Try.prog 59 (.agg (c70_oooo x)) k (.agg (mkA mtx (c70_oooo x) k)) (k + cntA (c70_oooo x)) := by
  refine ⟨lit_hb lit59, fun w0 St v bs hO hnd hbs => ?_⟩
  obtain ⟨us, rfl, hO⟩ := hO
  refine calls_ms (rs := []) (vs := [.agg us.toArray, .int .i64 k]) lit59 (Nat.le_of_ble_eq_true rfl) ?_
  have hd : deepL (c70_oooo x) = true := dp70 x
  have hI0 := InvA.start (mt := mtx) (k := k) (t := 70) hO hd hbs
  refine ms_seq (ms_rgn (mo_box rfl (mo_asgc (mo_nil ?_))))
  have hI1 := hI0.skip (c := nI x.1) rfl (fun _ => rfl)
  have q1 : (c70_oooo x)[1]? = some (oL 42 c42_ooo x.2) := rfl
  obtain ⟨u1, c1, d1⟩ := hI1.own hd hnd hbs q1 (m_laws_markDatabaseS x.2 (k + (cntA ((c70_oooo x).take 1) : Int)) (by omega) (cntA_bd q1 h1))
  refine ms_seq (ms_rgn (mo_fa tbOk rfl rfl rfl (mo_load tbOk rfl rfl rfl c1 (mo_move (t1_0 (k := k) (n := cntA ((c70_oooo x).take 1)) rfl) (mo_call (lit_hb lit132) (args2 rfl rfl) (d1.mono ?_))))))
  rintro e1 w1 ⟨rfl, hI2⟩
  refine ⟨_, rfl, mo_asg rfl (mo_nil ?_)⟩
  obtain ⟨hx, hy⟩ := hI2.done (Nat.le_of_ble_eq_true rfl)
  refine ms_seq (ms_rgn (mo_move rfl (mo_asg rfl (mo_nil ?_))))
  exact ms_ret ⟨.inl rfl, _, rfl, rfl, ⟨us, rfl, hx⟩, hy⟩
def laws_markHistory (x : Y69) (k : Int) : Option (Y69 × Int) := chk (0 ≤ k ∧ k + (cs70 x : Int) ≤ mB) (some (ms70 x k, k + cs70 x))
theorem laws_markHistory_e {x : Y69} {k : Int} (h0 : 0 ≤ k) (h1 : k + (cs70 x : Int) ≤ mB) : laws_markHistory x k = some (ms70 x k, k + cs70 x) := chk_pos ⟨h0, h1⟩
theorem laws_markHistory_m {x : Y69} {k : Int} {r : Y69 × Int} (h : laws_markHistory x k = some r) : MarkAt Try.prog 59 (.agg (c70_oooo x)) k (.agg (c70_oooo r.1)) r.2 := by
  obtain ⟨⟨h0, h1⟩, h⟩ := chk_some h
  have hr := Option.some.inj h
  subst hr
  have e := m_laws_markHistory x k h0 (by rw [hz70]; exact h1)
  rw [hs70, hz70] at e
  exact e
def cs26 (x : Y25) : Nat := ce24 x.2
def ms26 (x : Y25) (k : Int) : Y25 := (x.1, me24 x.2 (k))
theorem hs26 (x : Y25) (k : Int) : mkA mtx (c26_oo x) k = c26_oo (ms26 x k) := by
  have h : mkA mtx [nI x.1, oL 31 c31_o x.2] k = _ := (mka (fun _ _ => rfl) (mkao hm31 hc31 _ (show mkA mtx [] _ = [] from rfl)))
  refine h.trans ?_
  simp only [c26_oo, ms26, cs26, ce24, me24, Int.add_assoc, ← Int.natCast_add, Nat.add_assoc, Int.natCast_add]
theorem hz26 (x : Y25) : cntA (c26_oo x) = cs26 x := by
  have h : cntA [nI x.1, oL 31 c31_o x.2] = _ := (cnta (fun _ => rfl) (cntao hc31 _ (show cntA [] = 0 from rfl)))
  refine (show cntA (c26_oo x) = _ from h).trans ?_
  simp only [cs26, ce24, me24, Nat.add_assoc, Nat.add_zero, Nat.zero_add]
theorem m_laws_markRelation (x : Y25) (k : Int) (h0 : 0 ≤ k) (h1 : k + cntA (c26_oo x) ≤ mB) : MarkAt Try.prog 137 (.agg (c26_oo x)) k (.agg (mkA mtx (c26_oo x) k)) (k + cntA (c26_oo x)) := by
  refine ⟨lit_hb lit137, fun w0 St v bs hO hnd hbs => ?_⟩
  obtain ⟨us, rfl, hO⟩ := hO
  refine calls_ms (rs := []) (vs := [.agg us.toArray, .int .i64 k]) lit137 (Nat.le_of_ble_eq_true rfl) ?_
  have hd : deepL (c26_oo x) = true := dp26 x
  have hI0 := InvA.start (mt := mtx) (k := k) (t := 26) hO hd hbs
  refine ms_seq (ms_rgn (mo_box rfl (mo_asgc (mo_nil ?_))))
  have hI1 := hI0.skip (c := nI x.1) rfl (fun _ => rfl)
  have q1 : (c26_oo x)[1]? = some (oL 31 c31_o x.2) := rfl
  obtain ⟨u1, c1, d1⟩ := hI1.own hd hnd hbs q1 (m_laws_markIntSS x.2 (k + (cntA ((c26_oo x).take 1) : Int)) (by omega) (cntA_bd q1 h1))
  refine ms_seq (ms_rgn (mo_fa tbOk rfl rfl rfl (mo_load tbOk rfl rfl rfl c1 (mo_move (t1_0 (k := k) (n := cntA ((c26_oo x).take 1)) rfl) (mo_call (lit_hb lit184) (args2 rfl rfl) (d1.mono ?_))))))
  rintro e1 w1 ⟨rfl, hI2⟩
  refine ⟨_, rfl, mo_asg rfl (mo_nil ?_)⟩
  obtain ⟨hx, hy⟩ := hI2.done (Nat.le_of_ble_eq_true rfl)
  refine ms_seq (ms_rgn (mo_move rfl (mo_asg rfl (mo_nil ?_))))
  exact ms_ret ⟨.inl rfl, _, rfl, rfl, ⟨us, rfl, hx⟩, hy⟩
def laws_markRelation (x : Y25) (k : Int) : Option (Y25 × Int) := chk (0 ≤ k ∧ k + (cs26 x : Int) ≤ mB) (some (ms26 x k, k + cs26 x))
theorem laws_markRelation_e {x : Y25} {k : Int} (h0 : 0 ≤ k) (h1 : k + (cs26 x : Int) ≤ mB) : laws_markRelation x k = some (ms26 x k, k + cs26 x) := chk_pos ⟨h0, h1⟩
theorem laws_markRelation_m {x : Y25} {k : Int} {r : Y25 × Int} (h : laws_markRelation x k = some r) : MarkAt Try.prog 137 (.agg (c26_oo x)) k (.agg (c26_oo r.1)) r.2 := by
  obtain ⟨⟨h0, h1⟩, h⟩ := chk_some h
  have hr := Option.some.inj h
  subst hr
  have e := m_laws_markRelation x k h0 (by rw [hz26]; exact h1)
  rw [hs26, hz26] at e
  exact e
def ce72 (x : Y71) : Nat := (1) + (ce26 x.2.1) + (ce26 x.2.2)
def me72 (x : Y71) (k : Int) : Y71 := (mtx (k), me26 x.2.1 (k + ((1 : Nat) : Int)), me26 x.2.2 (k + ((1 : Nat) : Int) + ((ce26 x.2.1 : Nat) : Int)))
theorem hm72 (x : Y71) (k : Int) : mkVs mtx (c72_oooo x) k = c72_oooo (me72 x k) := by
  have h : mkVs mtx [.str x.1, nI x.2.1.1, oL 31 c31_o x.2.1.2, nI x.2.2.1, oL 31 c31_o x.2.2.2] k = _ := (mkc (n := 1) (c' := V.str _) rfl rfl (mkc (n := 1) (c' := V.int .i64 _) rfl rfl (mkc (mk_own hm31 hc31 _ _) (cnt_own hc31 _) (mkc (n := 1) (c' := V.int .i64 _) rfl rfl (mkc (mk_own hm31 hc31 _ _) (cnt_own hc31 _) (show mkVs mtx [] _ = [] from rfl))))))
  refine h.trans ?_
  simp only [c72_oooo, me72, ce72, c26_oo, ce24, ce26, me24, me26, Int.add_assoc, ← Int.natCast_add, Nat.add_assoc, Int.natCast_add]
theorem hc72 (x : Y71) : cntVs (c72_oooo x) = ce72 x := by
  have h : cntVs [.str x.1, nI x.2.1.1, oL 31 c31_o x.2.1.2, nI x.2.2.1, oL 31 c31_o x.2.2.2] = _ := (cntc (n := 1) rfl (cntc (n := 1) rfl (cntc (cnt_own hc31 _) (cntc (n := 1) rfl (cntc (cnt_own hc31 _) (show cntVs [] = 0 from rfl))))))
  refine (show cntVs (c72_oooo x) = _ from h).trans ?_
  simp only [ce72, c26_oo, ce24, ce26, me24, me26, Nat.add_assoc, Nat.add_zero]
theorem dp72 (x : Y71) : deepL (c72_oooo x) = true := (dpc rfl (dpc rfl (dpc (dpo dp31 _) (dpc rfl (dpc (dpo dp31 _) rfl)))))
def cs72 (x : Y71) : Nat := cs26 x.2.1 + cs26 x.2.2
def ms72 (x : Y71) (k : Int) : Y71 := (x.1, ms26 x.2.1 (k), ms26 x.2.2 (k + ((cs26 x.2.1 : Nat) : Int)))
theorem hs72 (x : Y71) (k : Int) : mkA mtx (c72_oooo x) k = c72_oooo (ms72 x k) := by
  have h : mkA mtx [.str x.1, nI x.2.1.1, oL 31 c31_o x.2.1.2, nI x.2.2.1, oL 31 c31_o x.2.2.2] k = _ := (mka (fun _ _ => rfl) (mka (fun _ _ => rfl) (mkao hm31 hc31 _ (mka (fun _ _ => rfl) (mkao hm31 hc31 _ (show mkA mtx [] _ = [] from rfl))))))
  refine h.trans ?_
  simp only [c72_oooo, ms72, cs72, c26_oo, ce24, cs26, me24, ms26, Int.add_assoc, ← Int.natCast_add, Nat.add_assoc, Int.natCast_add]
theorem hz72 (x : Y71) : cntA (c72_oooo x) = cs72 x := by
  have h : cntA [.str x.1, nI x.2.1.1, oL 31 c31_o x.2.1.2, nI x.2.2.1, oL 31 c31_o x.2.2.2] = _ := (cnta (fun _ => rfl) (cnta (fun _ => rfl) (cntao hc31 _ (cnta (fun _ => rfl) (cntao hc31 _ (show cntA [] = 0 from rfl))))))
  refine (show cntA (c72_oooo x) = _ from h).trans ?_
  simp only [cs72, c26_oo, ce24, cs26, me24, ms26, Nat.add_assoc, Nat.add_zero, Nat.zero_add]
theorem m_laws_markDelta (x : Y71) (k : Int) (h0 : 0 ≤ k) (h1 : k + cntA (c72_oooo x) ≤ mB) : MarkAt Try.prog 65 (.agg (c72_oooo x)) k (.agg (mkA mtx (c72_oooo x) k)) (k + cntA (c72_oooo x)) := by
  refine ⟨lit_hb lit65, fun w0 St v bs hO hnd hbs => ?_⟩
  obtain ⟨us, rfl, hO⟩ := hO
  refine calls_ms (rs := []) (vs := [.agg us.toArray, .int .i64 k]) lit65 (Nat.le_of_ble_eq_true rfl) ?_
  have hd : deepL (c72_oooo x) = true := dp72 x
  have hI0 := InvA.start (mt := mtx) (k := k) (t := 72) hO hd hbs
  refine ms_seq (ms_rgn (mo_box rfl (mo_asgc (mo_nil ?_))))
  have hI1 := hI0.skip (c := .str x.1) rfl (fun _ => rfl)
  have q1 : ((c72_oooo x).drop 1).take 2 = c26_oo x.2.1 := rfl
  obtain ⟨u1, l1, c1, d1⟩ := hI1.agg hd hnd hbs (Nat.le_of_ble_eq_true rfl) q1 (m_laws_markRelation x.2.1 (k + (cntA ((c72_oooo x).take 1) : Int)) (by omega) (cntA_bdp q1 h1))
  refine ms_seq (ms_rgn (mo_fa tbOk rfl rfl rfl (mo_loadA tbOk rfl l1 rfl c1 (mo_move (t1_0 (k := k) (n := cntA ((c72_oooo x).take 1)) rfl) (mo_call (lit_hb lit137) (args2 rfl rfl) (d1.mono ?_))))))
  rintro e1 w1 ⟨rfl, hI3⟩
  refine ⟨_, rfl, mo_asg rfl (mo_nil ?_)⟩
  have q3 : ((c72_oooo x).drop 3).take 2 = c26_oo x.2.2 := rfl
  obtain ⟨u3, l3, c3, d3⟩ := hI3.agg hd hnd hbs (Nat.le_of_ble_eq_true rfl) q3 (m_laws_markRelation x.2.2 (k + (cntA ((c72_oooo x).take 3) : Int)) (by omega) (cntA_bdp q3 h1))
  refine ms_seq (ms_rgn (mo_fa tbOk rfl rfl rfl (mo_loadA tbOk rfl l3 rfl c3 (mo_move rfl (mo_call (lit_hb lit137) (args2 rfl rfl) (d3.mono ?_))))))
  rintro e3 w2 ⟨rfl, hI5⟩
  refine ⟨_, rfl, mo_asg rfl (mo_nil ?_)⟩
  obtain ⟨hx, hy⟩ := hI5.done (Nat.le_of_ble_eq_true rfl)
  refine ms_seq (ms_rgn (mo_move rfl (mo_asg rfl (mo_nil ?_))))
  exact ms_ret ⟨.inl rfl, _, rfl, rfl, ⟨us, rfl, hx⟩, hy⟩
def laws_markDelta (x : Y71) (k : Int) : Option (Y71 × Int) := chk (0 ≤ k ∧ k + (cs72 x : Int) ≤ mB) (some (ms72 x k, k + cs72 x))
theorem laws_markDelta_e {x : Y71} {k : Int} (h0 : 0 ≤ k) (h1 : k + (cs72 x : Int) ≤ mB) : laws_markDelta x k = some (ms72 x k, k + cs72 x) := chk_pos ⟨h0, h1⟩
theorem laws_markDelta_m {x : Y71} {k : Int} {r : Y71 × Int} (h : laws_markDelta x k = some r) : MarkAt Try.prog 65 (.agg (c72_oooo x)) k (.agg (c72_oooo r.1)) r.2 := by
  obtain ⟨⟨h0, h1⟩, h⟩ := chk_some h
  have hr := Option.some.inj h
  subst hr
  have e := m_laws_markDelta x k h0 (by rw [hz72]; exact h1)
  rw [hs72, hz72] at e
  exact e
end Go.Proofs.Ytmioifafgbjjhaa
