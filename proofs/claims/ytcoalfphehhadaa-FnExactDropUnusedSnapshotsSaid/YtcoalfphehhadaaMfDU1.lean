/-
  What the functions that mark do: contracts and typed functions, printed by genmark.py. No conditions.
-/
import Derived.Test.YtcoalfphehhadaaMxDU1
namespace Go.Proofs.Ytcoalfphehhadaa
open Go.RowKit
set_option linter.unusedVariables false
set_option linter.unusedSimpArgs false
set_option maxRecDepth 100000
def c60_d (x : List Int) : List V := [dL ci64 x]
theorem zc60_d (x : List Int) : (c60_d x).length = 1 := rfl
theorem ec60_d (x : List Int) : erL (c60_d x) = c60_d x := (erc (erD eci64 _) rfl)
def c60_o (x : List Int) : List V := [oL 3 ci64 x]
theorem zc60_o (x : List Int) : (c60_o x).length = 1 := rfl
theorem ec60_o (x : List Int) : erL (c60_o x) = c60_d x := (erc (erO eci64 _) rfl)
def c27_dd (x : List (List Int)) : List V := [dL c60_d x]
theorem zc27_dd (x : List (List Int)) : (c27_dd x).length = 1 := rfl
theorem ec27_dd (x : List (List Int)) : erL (c27_dd x) = c27_dd x := (erc (erD ec60_d _) rfl)
def c27_oo (x : List (List Int)) : List V := [oL 60 c60_o x]
theorem zc27_oo (x : List (List Int)) : (c27_oo x).length = 1 := rfl
theorem ec27_oo (x : List (List Int)) : erL (c27_oo x) = c27_dd x := (erc (erO ec60_o _) rfl)
abbrev Y28 := Int × (List (List Int))
def c29_dd (x : Y28) : List V := [nI x.1, dL c60_d x.2]
theorem zc29_dd (x : Y28) : (c29_dd x).length = 2 := rfl
theorem ec29_dd (x : Y28) : erL (c29_dd x) = c29_dd x := (erc rfl (erc (erD ec60_d _) rfl))
def c29_oo (x : Y28) : List V := [nI x.1, oL 60 c60_o x.2]
theorem zc29_oo (x : Y28) : (c29_oo x).length = 2 := rfl
theorem ec29_oo (x : Y28) : erL (c29_oo x) = c29_dd x := (erc rfl (erc (erO ec60_o _) rfl))
abbrev Y82 := (List UInt8) × Y28
def c83_dd (x : Y82) : List V := [.str x.1, nI x.2.1, dL c60_d x.2.2]
theorem zc83_dd (x : Y82) : (c83_dd x).length = 3 := rfl
theorem ec83_dd (x : Y82) : erL (c83_dd x) = c83_dd x := (erc rfl (erc rfl (erc (erD ec60_d _) rfl)))
def c83_oo (x : Y82) : List V := [.str x.1, nI x.2.1, oL 60 c60_o x.2.2]
theorem zc83_oo (x : Y82) : (c83_oo x).length = 3 := rfl
theorem ec83_oo (x : Y82) : erL (c83_oo x) = c83_dd x := (erc rfl (erc rfl (erc (erO ec60_o _) rfl)))
def c37_ddd (x : List Y82) : List V := [dL c83_dd x]
theorem zc37_ddd (x : List Y82) : (c37_ddd x).length = 1 := rfl
theorem ec37_ddd (x : List Y82) : erL (c37_ddd x) = c37_ddd x := (erc (erD ec83_dd _) rfl)
def c37_ooo (x : List Y82) : List V := [oL 83 c83_oo x]
theorem zc37_ooo (x : List Y82) : (c37_ooo x).length = 1 := rfl
theorem ec37_ooo (x : List Y82) : erL (c37_ooo x) = c37_ddd x := (erc (erO ec83_oo _) rfl)
def c39_ddd (x : List Y82) : List V := [dL c83_dd x]
theorem zc39_ddd (x : List Y82) : (c39_ddd x).length = 1 := rfl
theorem ec39_ddd (x : List Y82) : erL (c39_ddd x) = c39_ddd x := (erc (erD ec83_dd _) rfl)
def c39_ooo (x : List Y82) : List V := [oL 83 c83_oo x]
theorem zc39_ooo (x : List Y82) : (c39_ooo x).length = 1 := rfl
theorem ec39_ooo (x : List Y82) : erL (c39_ooo x) = c39_ddd x := (erc (erO ec83_oo _) rfl)
def c24_dddd (x : List (List Y82)) : List V := [dL c39_ddd x]
theorem zc24_dddd (x : List (List Y82)) : (c24_dddd x).length = 1 := rfl
theorem ec24_dddd (x : List (List Y82)) : erL (c24_dddd x) = c24_dddd x := (erc (erD ec39_ddd _) rfl)
def c24_oooo (x : List (List Y82)) : List V := [oL 39 c39_ooo x]
theorem zc24_oooo (x : List (List Y82)) : (c24_oooo x).length = 1 := rfl
theorem ec24_oooo (x : List (List Y82)) : erL (c24_oooo x) = c24_dddd x := (erc (erO ec39_ooo _) rfl)
abbrev Y25 := Int × (List (List Y82))
def c26_dddd (x : Y25) : List V := [nI x.1, dL c39_ddd x.2]
theorem zc26_dddd (x : Y25) : (c26_dddd x).length = 2 := rfl
theorem ec26_dddd (x : Y25) : erL (c26_dddd x) = c26_dddd x := (erc rfl (erc (erD ec39_ddd _) rfl))
def c26_oooo (x : Y25) : List V := [nI x.1, oL 39 c39_ooo x.2]
theorem zc26_oooo (x : Y25) : (c26_oooo x).length = 2 := rfl
theorem ec26_oooo (x : Y25) : erL (c26_oooo x) = c26_dddd x := (erc rfl (erc (erO ec39_ooo _) rfl))
abbrev Y123 := (List UInt8) × (List Int)
def c124_d (x : Y123) : List V := [.str x.1, dL ci64 x.2]
theorem zc124_d (x : Y123) : (c124_d x).length = 2 := rfl
theorem ec124_d (x : Y123) : erL (c124_d x) = c124_d x := (erc rfl (erc (erD eci64 _) rfl))
def c124_o (x : Y123) : List V := [.str x.1, oL 3 ci64 x.2]
theorem zc124_o (x : Y123) : (c124_o x).length = 2 := rfl
theorem ec124_o (x : Y123) : erL (c124_o x) = c124_d x := (erc rfl (erc (erO eci64 _) rfl))
def c59_dd (x : List Y123) : List V := [dL c124_d x]
theorem zc59_dd (x : List Y123) : (c59_dd x).length = 1 := rfl
theorem ec59_dd (x : List Y123) : erL (c59_dd x) = c59_dd x := (erc (erD ec124_d _) rfl)
def c59_oo (x : List Y123) : List V := [oL 124 c124_o x]
theorem zc59_oo (x : List Y123) : (c59_oo x).length = 1 := rfl
theorem ec59_oo (x : List Y123) : erL (c59_oo x) = c59_dd x := (erc (erO ec124_o _) rfl)
abbrev Y61 := Int × (List Y123) × (List Int)
def c62_ddd (x : Y61) : List V := [nI x.1, dL c124_d x.2.1, dL ci64 x.2.2]
theorem zc62_ddd (x : Y61) : (c62_ddd x).length = 3 := rfl
theorem ec62_ddd (x : Y61) : erL (c62_ddd x) = c62_ddd x := (erc rfl (erc (erD ec124_d _) (erc (erD eci64 _) rfl)))
def c62_ooo (x : Y61) : List V := [nI x.1, oL 124 c124_o x.2.1, oL 3 ci64 x.2.2]
theorem zc62_ooo (x : Y61) : (c62_ooo x).length = 3 := rfl
theorem ec62_ooo (x : Y61) : erL (c62_ooo x) = c62_ddd x := (erc rfl (erc (erO ec124_o _) (erc (erO eci64 _) rfl)))
abbrev Y99 := Int × (List Int) × (List Int) × Y61
def c100_ddddd (x : Y99) : List V := [nI x.1, dL ci64 x.2.1, dL ci64 x.2.2.1, nI x.2.2.2.1, dL c124_d x.2.2.2.2.1, dL ci64 x.2.2.2.2.2]
theorem zc100_ddddd (x : Y99) : (c100_ddddd x).length = 6 := rfl
theorem ec100_ddddd (x : Y99) : erL (c100_ddddd x) = c100_ddddd x := (erc rfl (erc (erD eci64 _) (erc (erD eci64 _) (erc rfl (erc (erD ec124_d _) (erc (erD eci64 _) rfl))))))
def c100_ooooo (x : Y99) : List V := [nI x.1, oL 3 ci64 x.2.1, oL 3 ci64 x.2.2.1, nI x.2.2.2.1, oL 124 c124_o x.2.2.2.2.1, oL 3 ci64 x.2.2.2.2.2]
theorem zc100_ooooo (x : Y99) : (c100_ooooo x).length = 6 := rfl
theorem ec100_ooooo (x : Y99) : erL (c100_ooooo x) = c100_ddddd x := (erc rfl (erc (erO eci64 _) (erc (erO eci64 _) (erc rfl (erc (erO ec124_o _) (erc (erO eci64 _) rfl))))))
def c53_dddddd (x : List Y99) : List V := [dL c100_ddddd x]
theorem zc53_dddddd (x : List Y99) : (c53_dddddd x).length = 1 := rfl
theorem ec53_dddddd (x : List Y99) : erL (c53_dddddd x) = c53_dddddd x := (erc (erD ec100_ddddd _) rfl)
def c53_oooooo (x : List Y99) : List V := [oL 100 c100_ooooo x]
theorem zc53_oooooo (x : List Y99) : (c53_oooooo x).length = 1 := rfl
theorem ec53_oooooo (x : List Y99) : erL (c53_oooooo x) = c53_dddddd x := (erc (erO ec100_ooooo _) rfl)
def ce60 (x : List Int) : Nat := cntL oneI x
def me60 (x : List Int) (k : Int) : List Int := mkL oneI markI x k
theorem hm60 (x : List Int) (k : Int) : mkVs mtx (c60_o x) k = c60_o (me60 x k) := by
  unfold c60_o me60
  exact mkc (mk_own hmI hcI x k) (cnt_own hcI x) rfl
theorem hc60 (x : List Int) : cntVs (c60_o x) = ce60 x := by
  unfold c60_o ce60
  exact cntc (cnt_own hcI x) rfl
theorem dp60 (x : List Int) : deepL (c60_o x) = true := dpc (dpo (fun _ => rfl) x) rfl
theorem r_laws_markIntS (l : List Int) (k : Int) (h0 : 0 ≤ k) (h1 : k + cntVs (l.flatMap ci64) ≤ mB) {body : LC} (hb : body = (.seq (.rgn [] [LL 12 (.move (.tmp 0)) 60,
      LL 13 (.move (.tmp 5)) 3,
      LL 14 (.move (.tmp 1)) 3,
      LL 15 (.indexAddr 60 (.tmp 12) (.tmp 13)) 0,
      ⟨none, (.store 3 (.tmp 15) (.tmp 14)), 0, none⟩])
    (.rgn [] [LL 16 (.move (.tmp 1)) 3,
      LL 17 (.binOp .add 3 (.tmp 16) (.const (.int .i64 1)) 3) 3,
      LL 1 (.assign (.tmp 17)) 3]))) : Round Try.prog 19 [] mtx 3 1 body l.length (l.flatMap ci64) k := by
  subst hb
  intro St w0 bs g cap j w T hnd hbs hj hI0 t0 t1 t5
  have hd : deepL (l.flatMap ci64) = true := deep_flat (fun _ => rfl) l
  have hI0 : Inv Try.prog St mtx 3 l.length (l.flatMap ci64) k (.slice (some ⟨g, 0, none⟩) l.length cap) bs w0 (j * 1 + 0) w := hI0
  have t1 : T 1 = some (.int .i64 (k + (cntP (l.flatMap ci64) (j * 1 + 0) : Int))) := t1
  have q0 : (l.flatMap ci64)[j * 1 + 0]? = some (nI (l[j])) := (flat_at zci64 hj (by decide)).trans rfl
  have b0 := cnt_bd q0 h1
  rw [show cntV (nI (l[j])) = 1 from rfl] at b0
  have x0 : k + (cntP (l.flatMap ci64) (j * 1 + 0) : Int) + 1 = k + (cntP (l.flatMap ci64) (j * 1 + 1) : Int) := cnt_s1 (k := k) q0 rfl
  have n0 : 0 ≤ k + (cntP (l.flatMap ci64) (j * 1 + 0) : Int) := cnt_nn h0
  obtain ⟨u0, c0, f0, hI1⟩ := hI0.int' hd hnd q0
  refine ms_seq (ms_rgn (mo_move t0 (mo_move t5 (mo_move t1 (mo_ia tbOk rfl rfl rfl hj (mo_store tbOk rfl rfl rfl rfl c0 f0 rfl (mo_nil ?_)))))))
  generalize hw1 : World.setCell _ _ _ = w1 at hI1 ⊢
  refine ms_rgn (mo_move t1 (mo_add rfl (by omega) (by unfold mB at b0; omega) (mo_asg rfl (mo_nil ?_))))
  rw [x0]
  exact ⟨rfl, t0, rfl, t5, hI1⟩
theorem m_laws_markIntS (l : List Int) (k : Int) (h0 : 0 ≤ k) (h1 : k + cntVs (l.flatMap ci64) ≤ mB) : MarkAt Try.prog 62 (.own 3 l.length (l.flatMap ci64)) k (.own 3 l.length (mkVs mtx (l.flatMap ci64) k)) (k + cntVs (l.flatMap ci64)) :=
  mark_slice tbOk (r := 18) (ty := 60) (it := 3) (bt := 4) lit62 (by decide) rfl (flat_len zci64 l) (by decide) (r_laws_markIntS l k h0 h1 rfl)
def laws_markIntS (x : List Int) (k : Int) : Option ((List Int) × Int) := chk (0 ≤ k ∧ k + (ce60 x : Int) ≤ mB) (some (me60 x k, k + ce60 x))
theorem laws_markIntS_e {x : List Int} {k : Int} (h0 : 0 ≤ k) (h1 : k + (ce60 x : Int) ≤ mB) : laws_markIntS x k = some (me60 x k, k + ce60 x) := chk_pos ⟨h0, h1⟩
theorem laws_markIntS_m {x : List Int} {k : Int} {r : (List Int) × Int} (h : laws_markIntS x k = some r) : MarkAt Try.prog 62 (oL 3 ci64 x) k (oL 3 ci64 r.1) r.2 := by
  obtain ⟨⟨h0, h1⟩, h⟩ := chk_some h
  have hr := Option.some.inj h
  subst hr
  have hx := cntVs_flat (f := ci64) (cnt := oneI) hcI x
  have e := m_laws_markIntS x k h0 (by rw [hx]; exact h1)
  rw [mkVs_flat (f := ci64) (cnt := oneI) (mk := markI) hmI hcI, hx] at e
  show MarkAt Try.prog 62 _ k (.own 3 (mkL oneI markI x k).length ((mkL oneI markI x k).flatMap ci64)) (k + (cntL oneI x : Int))
  rw [mkL_length]
  exact e
def ce27 (x : List (List Int)) : Nat := cntL ce60 x
def me27 (x : List (List Int)) (k : Int) : List (List Int) := mkL ce60 me60 x k
theorem hm27 (x : List (List Int)) (k : Int) : mkVs mtx (c27_oo x) k = c27_oo (me27 x k) := by
  unfold c27_oo me27
  exact mkc (mk_own hm60 hc60 x k) (cnt_own hc60 x) rfl
theorem hc27 (x : List (List Int)) : cntVs (c27_oo x) = ce27 x := by
  unfold c27_oo ce27
  exact cntc (cnt_own hc60 x) rfl
theorem dp27 (x : List (List Int)) : deepL (c27_oo x) = true := dpc (dpo dp60 x) rfl
theorem r_laws_markIntSS (l : List (List Int)) (k : Int) (h0 : 0 ≤ k) (h1 : k + cntVs (l.flatMap c60_o) ≤ mB) {body : LC} (hb : body = (.rgn [] [LL 12 (.move (.tmp 0)) 27,
      LL 13 (.move (.tmp 5)) 3,
      LL 14 (.indexAddr 27 (.tmp 12) (.tmp 13)) 0,
      LL 15 (.load 60 (.tmp 14)) 60,
      LL 16 (.move (.tmp 1)) 3,
      LL 17 (.call { callee := (.value (.func 62)), args := #[(.tmp 15), (.tmp 16)], argTypes := #[60, 3] }) 3,
      LL 1 (.assign (.tmp 17)) 3])) : Round Try.prog 19 [] mtx 60 1 body l.length (l.flatMap c60_o) k := by
  subst hb
  intro St w0 bs g cap j w T hnd hbs hj hI0 t0 t1 t5
  have hd : deepL (l.flatMap c60_o) = true := deep_flat dp60 l
  have hI0 : Inv Try.prog St mtx 60 l.length (l.flatMap c60_o) k (.slice (some ⟨g, 0, none⟩) l.length cap) bs w0 (j * 1 + 0) w := hI0
  have t1 : T 1 = some (.int .i64 (k + (cntP (l.flatMap c60_o) (j * 1 + 0) : Int))) := t1
  have q0 : (l.flatMap c60_o)[j * 1 + 0]? = some (oL 3 ci64 (l[j])) := (flat_at zc60_o hj (by decide)).trans rfl
  have b0 := cnt_bd q0 h1
  have n0 : 0 ≤ k + (cntP (l.flatMap c60_o) (j * 1 + 0) : Int) := cnt_nn h0
  have k0 := m_laws_markIntS (l[j]) (k + (cntP (l.flatMap c60_o) (j * 1 + 0) : Int)) n0 b0
  obtain ⟨u0, c0, d0⟩ := hI0.own' hd hnd hbs q0 k0
  have d0 : Calls Try.prog 62 #[u0, .int .i64 (k + (cntP (l.flatMap c60_o) (j * 1 + 0) : Int))] w (fun e' w' => e' = .returned (.int .i64 (k + (cntP (l.flatMap c60_o) (j * 1 + 1) : Int))) ∧ Inv Try.prog St mtx 60 l.length (l.flatMap c60_o) k (.slice (some ⟨g, 0, none⟩) l.length cap) bs w0 (j * 1 + 1) w') := d0
  refine ms_rgn (mo_move t0 (mo_move t5 (mo_ia tbOk rfl rfl rfl hj (mo_load tbOk rfl rfl rfl c0 (mo_move t1 (mo_call (lit_hb lit62) (args2 rfl rfl) (d0.mono ?_)))))))
  rintro e0 w1 ⟨rfl, hI1⟩
  refine ⟨_, rfl, mo_asg rfl (mo_nil ?_)⟩
  exact ⟨rfl, t0, rfl, t5, hI1⟩
theorem m_laws_markIntSS (l : List (List Int)) (k : Int) (h0 : 0 ≤ k) (h1 : k + cntVs (l.flatMap c60_o) ≤ mB) : MarkAt Try.prog 146 (.own 60 l.length (l.flatMap c60_o)) k (.own 60 l.length (mkVs mtx (l.flatMap c60_o) k)) (k + cntVs (l.flatMap c60_o)) :=
  mark_slice tbOk (r := 18) (ty := 27) (it := 3) (bt := 4) lit146 (by decide) rfl (flat_len zc60_o l) (by decide) (r_laws_markIntSS l k h0 h1 rfl)
def laws_markIntSS (x : List (List Int)) (k : Int) : Option ((List (List Int)) × Int) := chk (0 ≤ k ∧ k + (ce27 x : Int) ≤ mB) (some (me27 x k, k + ce27 x))
theorem laws_markIntSS_e {x : List (List Int)} {k : Int} (h0 : 0 ≤ k) (h1 : k + (ce27 x : Int) ≤ mB) : laws_markIntSS x k = some (me27 x k, k + ce27 x) := chk_pos ⟨h0, h1⟩
theorem laws_markIntSS_m {x : List (List Int)} {k : Int} {r : (List (List Int)) × Int} (h : laws_markIntSS x k = some r) : MarkAt Try.prog 146 (oL 60 c60_o x) k (oL 60 c60_o r.1) r.2 := by
  obtain ⟨⟨h0, h1⟩, h⟩ := chk_some h
  have hr := Option.some.inj h
  subst hr
  have hx := cntVs_flat (f := c60_o) (cnt := ce60) hc60 x
  have e := m_laws_markIntSS x k h0 (by rw [hx]; exact h1)
  rw [mkVs_flat (f := c60_o) (cnt := ce60) (mk := me60) hm60 hc60, hx] at e
  show MarkAt Try.prog 146 _ k (.own 60 (mkL ce60 me60 x k).length ((mkL ce60 me60 x k).flatMap c60_o)) (k + (cntL ce60 x : Int))
  rw [mkL_length]
  exact e
def ce29 (x : Y28) : Nat := (1) + (ce27 x.2)
def me29 (x : Y28) (k : Int) : Y28 := ((k), me27 x.2 (k + ((1 : Nat) : Int)))
theorem hm29 (x : Y28) (k : Int) : mkVs mtx (c29_oo x) k = c29_oo (me29 x k) := by
  have h : mkVs mtx [nI x.1, oL 60 c60_o x.2] k = _ := (mkc (n := 1) (c' := V.int .i64 _) rfl rfl (mkc (mk_own hm60 hc60 _ _) (cnt_own hc60 _) (show mkVs mtx [] _ = [] from rfl)))
  refine h.trans ?_
  simp only [c29_oo, me29, ce29, ce27, me27, Int.add_assoc, ← Int.natCast_add, Nat.add_assoc, Int.natCast_add]
theorem hc29 (x : Y28) : cntVs (c29_oo x) = ce29 x := by
  have h : cntVs [nI x.1, oL 60 c60_o x.2] = _ := (cntc (n := 1) rfl (cntc (cnt_own hc60 _) (show cntVs [] = 0 from rfl)))
  refine (show cntVs (c29_oo x) = _ from h).trans ?_
  simp only [ce29, ce27, me27, Nat.add_assoc, Nat.add_zero]
theorem dp29 (x : Y28) : deepL (c29_oo x) = true := (dpc rfl (dpc (dpo dp60 _) rfl))
def ce83 (x : Y82) : Nat := (1) + (ce29 x.2)
def me83 (x : Y82) (k : Int) : Y82 := (mtx (k), me29 x.2 (k + ((1 : Nat) : Int)))
theorem hm83 (x : Y82) (k : Int) : mkVs mtx (c83_oo x) k = c83_oo (me83 x k) := by
  have h : mkVs mtx [.str x.1, nI x.2.1, oL 60 c60_o x.2.2] k = _ := (mkc (n := 1) (c' := V.str _) rfl rfl (mkc (n := 1) (c' := V.int .i64 _) rfl rfl (mkc (mk_own hm60 hc60 _ _) (cnt_own hc60 _) (show mkVs mtx [] _ = [] from rfl))))
  refine h.trans ?_
  simp only [c83_oo, me83, ce83, c29_oo, ce27, ce29, me27, me29, Int.add_assoc, ← Int.natCast_add, Nat.add_assoc, Int.natCast_add]
theorem hc83 (x : Y82) : cntVs (c83_oo x) = ce83 x := by
  have h : cntVs [.str x.1, nI x.2.1, oL 60 c60_o x.2.2] = _ := (cntc (n := 1) rfl (cntc (n := 1) rfl (cntc (cnt_own hc60 _) (show cntVs [] = 0 from rfl))))
  refine (show cntVs (c83_oo x) = _ from h).trans ?_
  simp only [ce83, c29_oo, ce27, ce29, me27, me29, Nat.add_assoc, Nat.add_zero]
theorem dp83 (x : Y82) : deepL (c83_oo x) = true := (dpc rfl (dpc rfl (dpc (dpo dp60 _) rfl)))
def ce37 (x : List Y82) : Nat := cntL ce83 x
def me37 (x : List Y82) (k : Int) : List Y82 := mkL ce83 me83 x k
theorem hm37 (x : List Y82) (k : Int) : mkVs mtx (c37_ooo x) k = c37_ooo (me37 x k) := by
  unfold c37_ooo me37
  exact mkc (mk_own hm83 hc83 x k) (cnt_own hc83 x) rfl
theorem hc37 (x : List Y82) : cntVs (c37_ooo x) = ce37 x := by
  unfold c37_ooo ce37
  exact cntc (cnt_own hc83 x) rfl
theorem dp37 (x : List Y82) : deepL (c37_ooo x) = true := dpc (dpo dp83 x) rfl
theorem r_laws_markTableS (l : List Y82) (k : Int) (h0 : 0 ≤ k) (h1 : k + cntVs (l.flatMap c83_oo) ≤ mB) {body : LC} (hb : body = (.seq (.rgn [] [LL 12 (.move (.tmp 0)) 37,
      LL 13 (.move (.tmp 5)) 3,
      LL 14 (.move (.tmp 1)) 3,
      LL 15 (.call { callee := (.value (.func 115)), args := #[(.tmp 14)], argTypes := #[3] }) 9,
      LL 16 (.indexAddr 37 (.tmp 12) (.tmp 13)) 0,
      LL 17 (.fieldAddr 83 (.tmp 16) 0) 0,
      ⟨none, (.store 9 (.tmp 17) (.tmp 15)), 0, none⟩])
    (.seq (.rgn [] [LL 18 (.move (.tmp 1)) 3,
      LL 19 (.binOp .add 3 (.tmp 18) (.const (.int .i64 1)) 3) 3,
      LL 1 (.assign (.tmp 19)) 3])
    (.seq (.rgn [] [LL 20 (.move (.tmp 0)) 37,
      LL 21 (.move (.tmp 5)) 3,
      LL 22 (.move (.tmp 1)) 3,
      LL 23 (.indexAddr 37 (.tmp 20) (.tmp 21)) 0,
      LL 24 (.fieldAddr 83 (.tmp 23) 1) 0,
      LL 25 (.fieldAddr 29 (.tmp 24) 0) 0,
      ⟨none, (.store 3 (.tmp 25) (.tmp 22)), 0, none⟩])
    (.seq (.rgn [] [LL 26 (.move (.tmp 1)) 3,
      LL 27 (.binOp .add 3 (.tmp 26) (.const (.int .i64 1)) 3) 3,
      LL 1 (.assign (.tmp 27)) 3])
    (.rgn [] [LL 28 (.move (.tmp 0)) 37,
      LL 29 (.move (.tmp 5)) 3,
      LL 30 (.indexAddr 37 (.tmp 28) (.tmp 29)) 0,
      LL 31 (.fieldAddr 83 (.tmp 30) 1) 0,
      LL 32 (.fieldAddr 29 (.tmp 31) 1) 0,
      LL 33 (.load 27 (.tmp 32)) 27,
      LL 34 (.move (.tmp 1)) 3,
      LL 35 (.call { callee := (.value (.func 146)), args := #[(.tmp 33), (.tmp 34)], argTypes := #[27, 3] }) 3,
      LL 1 (.assign (.tmp 35)) 3])))))) : Round Try.prog 37 [] mtx 83 3 body l.length (l.flatMap c83_oo) k := by
  subst hb
  intro St w0 bs g cap j w T hnd hbs hj hI0 t0 t1 t5
  have hd : deepL (l.flatMap c83_oo) = true := deep_flat dp83 l
  have hI0 : Inv Try.prog St mtx 83 l.length (l.flatMap c83_oo) k (.slice (some ⟨g, 0, none⟩) l.length cap) bs w0 (j * 3 + 0) w := hI0
  have t1 : T 1 = some (.int .i64 (k + (cntP (l.flatMap c83_oo) (j * 3 + 0) : Int))) := t1
  have q0 : (l.flatMap c83_oo)[j * 3 + 0]? = some (.str ((l[j]).1)) := (flat_at zc83_oo hj (by decide)).trans rfl
  have b0 := cnt_bd q0 h1
  rw [show cntV (.str ((l[j]).1)) = 1 from rfl] at b0
  have x0 : k + (cntP (l.flatMap c83_oo) (j * 3 + 0) : Int) + 1 = k + (cntP (l.flatMap c83_oo) (j * 3 + 1) : Int) := cnt_s1 (k := k) q0 rfl
  have n0 : 0 ≤ k + (cntP (l.flatMap c83_oo) (j * 3 + 0) : Int) := cnt_nn h0
  have q1 : (l.flatMap c83_oo)[j * 3 + 1]? = some (nI (((l[j]).2).1)) := (flat_at zc83_oo hj (by decide)).trans rfl
  have b1 := cnt_bd q1 h1
  rw [show cntV (nI (((l[j]).2).1)) = 1 from rfl] at b1
  have x1 : k + (cntP (l.flatMap c83_oo) (j * 3 + 1) : Int) + 1 = k + (cntP (l.flatMap c83_oo) (j * 3 + 2) : Int) := cnt_s1 (k := k) q1 rfl
  have n1 : 0 ≤ k + (cntP (l.flatMap c83_oo) (j * 3 + 1) : Int) := cnt_nn h0
  have q2 : (l.flatMap c83_oo)[j * 3 + 2]? = some (oL 60 c60_o (((l[j]).2).2)) := (flat_at zc83_oo hj (by decide)).trans rfl
  have b2 := cnt_bd q2 h1
  have n2 : 0 ≤ k + (cntP (l.flatMap c83_oo) (j * 3 + 2) : Int) := cnt_nn h0
  refine ms_seq (ms_rgn (mo_move t0 (mo_move t5 (mo_move t1 (mo_call mtx_hb (args1 rfl) ((mtx_calls n0 (by omega) w).mono ?_))))))
  rintro e0 w1 ⟨rfl, z0⟩
  have hI0 := hI0.grow hd hbs z0
  obtain ⟨u0, c0, f0, hI1⟩ := hI0.str' hd hnd q0 (mtx_len n0 (by omega))
  refine ⟨_, rfl, mo_ia tbOk rfl rfl rfl hj (mo_fa tbOk rfl rfl rfl (mo_store tbOk rfl rfl rfl rfl c0 f0 rfl (mo_nil ?_)))⟩
  generalize hw2 : World.setCell _ _ _ = w2 at hI1 ⊢
  refine ms_seq (ms_rgn (mo_move t1 (mo_add rfl (by omega) (by unfold mB at b0; omega) (mo_asg rfl (mo_nil ?_)))))
  rw [x0]
  obtain ⟨u1, c1, f1, hI2⟩ := hI1.int' hd hnd q1
  refine ms_seq (ms_rgn (mo_move t0 (mo_move t5 (mo_move rfl (mo_ia tbOk rfl rfl rfl hj (mo_fa tbOk rfl rfl rfl (mo_fa tbOk rfl rfl rfl (mo_store tbOk rfl rfl rfl rfl c1 f1 rfl (mo_nil ?_)))))))))
  generalize hw3 : World.setCell _ _ _ = w3 at hI2 ⊢
  refine ms_seq (ms_rgn (mo_move rfl (mo_add rfl (by omega) (by unfold mB at b1; omega) (mo_asg rfl (mo_nil ?_)))))
  rw [x1]
  have k2 := m_laws_markIntSS (((l[j]).2).2) (k + (cntP (l.flatMap c83_oo) (j * 3 + 2) : Int)) n2 b2
  obtain ⟨u2, c2, d2⟩ := hI2.own' hd hnd hbs q2 k2
  have d2 : Calls Try.prog 146 #[u2, .int .i64 (k + (cntP (l.flatMap c83_oo) (j * 3 + 2) : Int))] w3 (fun e' w' => e' = .returned (.int .i64 (k + (cntP (l.flatMap c83_oo) (j * 3 + 3) : Int))) ∧ Inv Try.prog St mtx 83 l.length (l.flatMap c83_oo) k (.slice (some ⟨g, 0, none⟩) l.length cap) bs w0 (j * 3 + 3) w') := d2
  refine ms_rgn (mo_move t0 (mo_move t5 (mo_ia tbOk rfl rfl rfl hj (mo_fa tbOk rfl rfl rfl (mo_fa tbOk rfl rfl rfl (mo_load tbOk rfl rfl rfl c2 (mo_move rfl (mo_call (lit_hb lit146) (args2 rfl rfl) (d2.mono ?_)))))))))
  rintro e2 w4 ⟨rfl, hI3⟩
  refine ⟨_, rfl, mo_asg rfl (mo_nil ?_)⟩
  exact ⟨rfl, t0, rfl, t5, hI3⟩
theorem m_laws_markTableS (l : List Y82) (k : Int) (h0 : 0 ≤ k) (h1 : k + cntVs (l.flatMap c83_oo) ≤ mB) : MarkAt Try.prog 114 (.own 83 l.length (l.flatMap c83_oo)) k (.own 83 l.length (mkVs mtx (l.flatMap c83_oo) k)) (k + cntVs (l.flatMap c83_oo)) :=
  mark_slice tbOk (r := 36) (ty := 37) (it := 3) (bt := 4) lit114 (by decide) rfl (flat_len zc83_oo l) (by decide) (r_laws_markTableS l k h0 h1 rfl)
def laws_markTableS (x : List Y82) (k : Int) : Option ((List Y82) × Int) := chk (0 ≤ k ∧ k + (ce37 x : Int) ≤ mB) (some (me37 x k, k + ce37 x))
theorem laws_markTableS_e {x : List Y82} {k : Int} (h0 : 0 ≤ k) (h1 : k + (ce37 x : Int) ≤ mB) : laws_markTableS x k = some (me37 x k, k + ce37 x) := chk_pos ⟨h0, h1⟩
theorem laws_markTableS_m {x : List Y82} {k : Int} {r : (List Y82) × Int} (h : laws_markTableS x k = some r) : MarkAt Try.prog 114 (oL 83 c83_oo x) k (oL 83 c83_oo r.1) r.2 := by
  obtain ⟨⟨h0, h1⟩, h⟩ := chk_some h
  have hr := Option.some.inj h
  subst hr
  have hx := cntVs_flat (f := c83_oo) (cnt := ce83) hc83 x
  have e := m_laws_markTableS x k h0 (by rw [hx]; exact h1)
  rw [mkVs_flat (f := c83_oo) (cnt := ce83) (mk := me83) hm83 hc83, hx] at e
  show MarkAt Try.prog 114 _ k (.own 83 (mkL ce83 me83 x k).length ((mkL ce83 me83 x k).flatMap c83_oo)) (k + (cntL ce83 x : Int))
  rw [mkL_length]
  exact e
def ce39 (x : List Y82) : Nat := (ce37 x)
def me39 (x : List Y82) (k : Int) : List Y82 := (me37 x (k))
theorem hm39 (x : List Y82) (k : Int) : mkVs mtx (c39_ooo x) k = c39_ooo (me39 x k) := by
  have h : mkVs mtx [oL 83 c83_oo x] k = _ := (mkc (mk_own hm83 hc83 _ _) (cnt_own hc83 _) (show mkVs mtx [] _ = [] from rfl))
  refine h.trans ?_
  simp only [c39_ooo, me39, ce39, ce37, me37, Int.add_assoc, ← Int.natCast_add, Nat.add_assoc, Int.natCast_add]
theorem hc39 (x : List Y82) : cntVs (c39_ooo x) = ce39 x := by
  have h : cntVs [oL 83 c83_oo x] = _ := (cntc (cnt_own hc83 _) (show cntVs [] = 0 from rfl))
  refine (show cntVs (c39_ooo x) = _ from h).trans ?_
  simp only [ce39, ce37, me37, Nat.add_assoc, Nat.add_zero]
theorem dp39 (x : List Y82) : deepL (c39_ooo x) = true := (dpc (dpo dp83 _) rfl)
def ce24 (x : List (List Y82)) : Nat := cntL ce39 x
def me24 (x : List (List Y82)) (k : Int) : List (List Y82) := mkL ce39 me39 x k
theorem hm24 (x : List (List Y82)) (k : Int) : mkVs mtx (c24_oooo x) k = c24_oooo (me24 x k) := by
  unfold c24_oooo me24
  exact mkc (mk_own hm39 hc39 x k) (cnt_own hc39 x) rfl
theorem hc24 (x : List (List Y82)) : cntVs (c24_oooo x) = ce24 x := by
  unfold c24_oooo ce24
  exact cntc (cnt_own hc39 x) rfl
theorem dp24 (x : List (List Y82)) : deepL (c24_oooo x) = true := dpc (dpo dp39 x) rfl
theorem r_laws_markDatabaseS (l : List (List Y82)) (k : Int) (h0 : 0 ≤ k) (h1 : k + cntVs (l.flatMap c39_ooo) ≤ mB) {body : LC} (hb : body = (.rgn [] [LL 12 (.move (.tmp 0)) 24,
      LL 13 (.move (.tmp 5)) 3,
      LL 14 (.indexAddr 24 (.tmp 12) (.tmp 13)) 0,
      LL 15 (.fieldAddr 39 (.tmp 14) 0) 0,
      LL 16 (.load 37 (.tmp 15)) 37,
      LL 17 (.move (.tmp 1)) 3,
      LL 18 (.call { callee := (.value (.func 114)), args := #[(.tmp 16), (.tmp 17)], argTypes := #[37, 3] }) 3,
      LL 1 (.assign (.tmp 18)) 3])) : Round Try.prog 20 [] mtx 39 1 body l.length (l.flatMap c39_ooo) k := by
  subst hb
  intro St w0 bs g cap j w T hnd hbs hj hI0 t0 t1 t5
  have hd : deepL (l.flatMap c39_ooo) = true := deep_flat dp39 l
  have hI0 : Inv Try.prog St mtx 39 l.length (l.flatMap c39_ooo) k (.slice (some ⟨g, 0, none⟩) l.length cap) bs w0 (j * 1 + 0) w := hI0
  have t1 : T 1 = some (.int .i64 (k + (cntP (l.flatMap c39_ooo) (j * 1 + 0) : Int))) := t1
  have q0 : (l.flatMap c39_ooo)[j * 1 + 0]? = some (oL 83 c83_oo (l[j])) := (flat_at zc39_ooo hj (by decide)).trans rfl
  have b0 := cnt_bd q0 h1
  have n0 : 0 ≤ k + (cntP (l.flatMap c39_ooo) (j * 1 + 0) : Int) := cnt_nn h0
  have k0 := m_laws_markTableS (l[j]) (k + (cntP (l.flatMap c39_ooo) (j * 1 + 0) : Int)) n0 b0
  obtain ⟨u0, c0, d0⟩ := hI0.own' hd hnd hbs q0 k0
  have d0 : Calls Try.prog 114 #[u0, .int .i64 (k + (cntP (l.flatMap c39_ooo) (j * 1 + 0) : Int))] w (fun e' w' => e' = .returned (.int .i64 (k + (cntP (l.flatMap c39_ooo) (j * 1 + 1) : Int))) ∧ Inv Try.prog St mtx 39 l.length (l.flatMap c39_ooo) k (.slice (some ⟨g, 0, none⟩) l.length cap) bs w0 (j * 1 + 1) w') := d0
  refine ms_rgn (mo_move t0 (mo_move t5 (mo_ia tbOk rfl rfl rfl hj (mo_fa tbOk rfl rfl rfl (mo_load tbOk rfl rfl rfl c0 (mo_move t1 (mo_call (lit_hb lit114) (args2 rfl rfl) (d0.mono ?_))))))))
  rintro e0 w1 ⟨rfl, hI1⟩
  refine ⟨_, rfl, mo_asg rfl (mo_nil ?_)⟩
  exact ⟨rfl, t0, rfl, t5, hI1⟩
theorem m_laws_markDatabaseS (l : List (List Y82)) (k : Int) (h0 : 0 ≤ k) (h1 : k + cntVs (l.flatMap c39_ooo) ≤ mB) : MarkAt Try.prog 61 (.own 39 l.length (l.flatMap c39_ooo)) k (.own 39 l.length (mkVs mtx (l.flatMap c39_ooo) k)) (k + cntVs (l.flatMap c39_ooo)) :=
  mark_slice tbOk (r := 19) (ty := 24) (it := 3) (bt := 4) lit61 (by decide) rfl (flat_len zc39_ooo l) (by decide) (r_laws_markDatabaseS l k h0 h1 rfl)
def laws_markDatabaseS (x : List (List Y82)) (k : Int) : Option ((List (List Y82)) × Int) := chk (0 ≤ k ∧ k + (ce24 x : Int) ≤ mB) (some (me24 x k, k + ce24 x))
theorem laws_markDatabaseS_e {x : List (List Y82)} {k : Int} (h0 : 0 ≤ k) (h1 : k + (ce24 x : Int) ≤ mB) : laws_markDatabaseS x k = some (me24 x k, k + ce24 x) := chk_pos ⟨h0, h1⟩
theorem laws_markDatabaseS_m {x : List (List Y82)} {k : Int} {r : (List (List Y82)) × Int} (h : laws_markDatabaseS x k = some r) : MarkAt Try.prog 61 (oL 39 c39_ooo x) k (oL 39 c39_ooo r.1) r.2 := by
  obtain ⟨⟨h0, h1⟩, h⟩ := chk_some h
  have hr := Option.some.inj h
  subst hr
  have hx := cntVs_flat (f := c39_ooo) (cnt := ce39) hc39 x
  have e := m_laws_markDatabaseS x k h0 (by rw [hx]; exact h1)
  rw [mkVs_flat (f := c39_ooo) (cnt := ce39) (mk := me39) hm39 hc39, hx] at e
  show MarkAt Try.prog 61 _ k (.own 39 (mkL ce39 me39 x k).length ((mkL ce39 me39 x k).flatMap c39_ooo)) (k + (cntL ce39 x : Int))
  rw [mkL_length]
  exact e
def ce26 (x : Y25) : Nat := (1) + (ce24 x.2)
def me26 (x : Y25) (k : Int) : Y25 := ((k), me24 x.2 (k + ((1 : Nat) : Int)))
theorem hm26 (x : Y25) (k : Int) : mkVs mtx (c26_oooo x) k = c26_oooo (me26 x k) := by
  have h : mkVs mtx [nI x.1, oL 39 c39_ooo x.2] k = _ := (mkc (n := 1) (c' := V.int .i64 _) rfl rfl (mkc (mk_own hm39 hc39 _ _) (cnt_own hc39 _) (show mkVs mtx [] _ = [] from rfl)))
  refine h.trans ?_
  simp only [c26_oooo, me26, ce26, ce24, me24, Int.add_assoc, ← Int.natCast_add, Nat.add_assoc, Int.natCast_add]
theorem hc26 (x : Y25) : cntVs (c26_oooo x) = ce26 x := by
  have h : cntVs [nI x.1, oL 39 c39_ooo x.2] = _ := (cntc (n := 1) rfl (cntc (cnt_own hc39 _) (show cntVs [] = 0 from rfl)))
  refine (show cntVs (c26_oooo x) = _ from h).trans ?_
  simp only [ce26, ce24, me24, Nat.add_assoc, Nat.add_zero]
theorem dp26 (x : Y25) : deepL (c26_oooo x) = true := (dpc rfl (dpc (dpo dp39 _) rfl))
def cs26 (x : Y25) : Nat := ce24 x.2
def ms26 (x : Y25) (k : Int) : Y25 := (x.1, me24 x.2 (k))
theorem hs26 (x : Y25) (k : Int) : mkA mtx (c26_oooo x) k = c26_oooo (ms26 x k) := by
  have h : mkA mtx [nI x.1, oL 39 c39_ooo x.2] k = _ := (mka (fun _ _ => rfl) (mkao hm39 hc39 _ (show mkA mtx [] _ = [] from rfl)))
  refine h.trans ?_
  simp only [c26_oooo, ms26, cs26, ce24, me24, Int.add_assoc, ← Int.natCast_add, Nat.add_assoc, Int.natCast_add]
theorem hz26 (x : Y25) : cntA (c26_oooo x) = cs26 x := by
  have h : cntA [nI x.1, oL 39 c39_ooo x.2] = _ := (cnta (fun _ => rfl) (cntao hc39 _ (show cntA [] = 0 from rfl)))
  refine (show cntA (c26_oooo x) = _ from h).trans ?_
  simp only [cs26, ce24, me24, Nat.add_assoc, Nat.add_zero, Nat.zero_add]
theorem m_laws_markHistory (x : Y25) (k : Int) (h0 : 0 ≤ k) (h1 : k + cntA (c26_oooo x) ≤ mB) : MarkAt Try.prog 24 (.agg (c26_oooo x)) k (.agg (mkA mtx (c26_oooo x) k)) (k + cntA (c26_oooo x)) := by
  refine ⟨lit_hb lit24, fun w0 St v bs hO hnd hbs => ?_⟩
  obtain ⟨us, rfl, hO⟩ := hO
  refine calls_ms (rs := []) (vs := [.agg us.toArray, .int .i64 k]) lit24 (Nat.le_of_ble_eq_true rfl) ?_
  have hd : deepL (c26_oooo x) = true := dp26 x
  have hI0 := InvA.start (mt := mtx) (k := k) (t := 26) hO hd hbs
  refine ms_seq (ms_rgn (mo_box rfl (mo_asgc (mo_nil ?_))))
  have hI1 := hI0.skip (c := nI x.1) rfl (fun _ => rfl)
  have q1 : (c26_oooo x)[1]? = some (oL 39 c39_ooo x.2) := rfl
  obtain ⟨u1, c1, d1⟩ := hI1.own hd hnd hbs q1 (m_laws_markDatabaseS x.2 (k + (cntA ((c26_oooo x).take 1) : Int)) (by omega) (cntA_bd q1 h1))
  refine ms_seq (ms_rgn (mo_fa tbOk rfl rfl rfl (mo_load tbOk rfl rfl rfl c1 (mo_move (t1_0 (k := k) (n := cntA ((c26_oooo x).take 1)) rfl) (mo_call (lit_hb lit61) (args2 rfl rfl) (d1.mono ?_))))))
  rintro e1 w1 ⟨rfl, hI2⟩
  refine ⟨_, rfl, mo_asg rfl (mo_nil ?_)⟩
  obtain ⟨hx, hy⟩ := hI2.done (Nat.le_of_ble_eq_true rfl)
  refine ms_seq (ms_rgn (mo_move rfl (mo_asg rfl (mo_nil ?_))))
  exact ms_ret ⟨.inl rfl, _, rfl, rfl, ⟨us, rfl, hx⟩, hy⟩
def laws_markHistory (x : Y25) (k : Int) : Option (Y25 × Int) := chk (0 ≤ k ∧ k + (cs26 x : Int) ≤ mB) (some (ms26 x k, k + cs26 x))
theorem laws_markHistory_e {x : Y25} {k : Int} (h0 : 0 ≤ k) (h1 : k + (cs26 x : Int) ≤ mB) : laws_markHistory x k = some (ms26 x k, k + cs26 x) := chk_pos ⟨h0, h1⟩
theorem laws_markHistory_m {x : Y25} {k : Int} {r : Y25 × Int} (h : laws_markHistory x k = some r) : MarkAt Try.prog 24 (.agg (c26_oooo x)) k (.agg (c26_oooo r.1)) r.2 := by
  obtain ⟨⟨h0, h1⟩, h⟩ := chk_some h
  have hr := Option.some.inj h
  subst hr
  have e := m_laws_markHistory x k h0 (by rw [hz26]; exact h1)
  rw [hs26, hz26] at e
  exact e
def ce124 (x : Y123) : Nat := (1) + (ce60 x.2)
def me124 (x : Y123) (k : Int) : Y123 := (mtx (k), me60 x.2 (k + ((1 : Nat) : Int)))
theorem hm124 (x : Y123) (k : Int) : mkVs mtx (c124_o x) k = c124_o (me124 x k) := by
  have h : mkVs mtx [.str x.1, oL 3 ci64 x.2] k = _ := (mkc (n := 1) (c' := V.str _) rfl rfl (mkc (mk_own hmI hcI _ _) (cnt_own hcI _) (show mkVs mtx [] _ = [] from rfl)))
  refine h.trans ?_
  simp only [c124_o, me124, ce124, ce60, me60, Int.add_assoc, ← Int.natCast_add, Nat.add_assoc, Int.natCast_add]
theorem hc124 (x : Y123) : cntVs (c124_o x) = ce124 x := by
  have h : cntVs [.str x.1, oL 3 ci64 x.2] = _ := (cntc (n := 1) rfl (cntc (cnt_own hcI _) (show cntVs [] = 0 from rfl)))
  refine (show cntVs (c124_o x) = _ from h).trans ?_
  simp only [ce124, ce60, me60, Nat.add_assoc, Nat.add_zero]
theorem dp124 (x : Y123) : deepL (c124_o x) = true := (dpc rfl (dpc (dpo (fun _ => rfl) _) rfl))
def ce59 (x : List Y123) : Nat := cntL ce124 x
def me59 (x : List Y123) (k : Int) : List Y123 := mkL ce124 me124 x k
theorem hm59 (x : List Y123) (k : Int) : mkVs mtx (c59_oo x) k = c59_oo (me59 x k) := by
  unfold c59_oo me59
  exact mkc (mk_own hm124 hc124 x k) (cnt_own hc124 x) rfl
theorem hc59 (x : List Y123) : cntVs (c59_oo x) = ce59 x := by
  unfold c59_oo ce59
  exact cntc (cnt_own hc124 x) rfl
theorem dp59 (x : List Y123) : deepL (c59_oo x) = true := dpc (dpo dp124 x) rfl
theorem r_laws_markAtomS (l : List Y123) (k : Int) (h0 : 0 ≤ k) (h1 : k + cntVs (l.flatMap c124_o) ≤ mB) {body : LC} (hb : body = (.seq (.rgn [] [LL 12 (.move (.tmp 0)) 59,
      LL 13 (.move (.tmp 5)) 3,
      LL 14 (.move (.tmp 1)) 3,
      LL 15 (.call { callee := (.value (.func 115)), args := #[(.tmp 14)], argTypes := #[3] }) 9,
      LL 16 (.indexAddr 59 (.tmp 12) (.tmp 13)) 0,
      LL 17 (.fieldAddr 124 (.tmp 16) 0) 0,
      ⟨none, (.store 9 (.tmp 17) (.tmp 15)), 0, none⟩])
    (.seq (.rgn [] [LL 18 (.move (.tmp 1)) 3,
      LL 19 (.binOp .add 3 (.tmp 18) (.const (.int .i64 1)) 3) 3,
      LL 1 (.assign (.tmp 19)) 3])
    (.rgn [] [LL 20 (.move (.tmp 0)) 59,
      LL 21 (.move (.tmp 5)) 3,
      LL 22 (.indexAddr 59 (.tmp 20) (.tmp 21)) 0,
      LL 23 (.fieldAddr 124 (.tmp 22) 1) 0,
      LL 24 (.load 60 (.tmp 23)) 60,
      LL 25 (.move (.tmp 1)) 3,
      LL 26 (.call { callee := (.value (.func 62)), args := #[(.tmp 24), (.tmp 25)], argTypes := #[60, 3] }) 3,
      LL 1 (.assign (.tmp 26)) 3])))) : Round Try.prog 28 [] mtx 124 2 body l.length (l.flatMap c124_o) k := by
  subst hb
  intro St w0 bs g cap j w T hnd hbs hj hI0 t0 t1 t5
  have hd : deepL (l.flatMap c124_o) = true := deep_flat dp124 l
  have hI0 : Inv Try.prog St mtx 124 l.length (l.flatMap c124_o) k (.slice (some ⟨g, 0, none⟩) l.length cap) bs w0 (j * 2 + 0) w := hI0
  have t1 : T 1 = some (.int .i64 (k + (cntP (l.flatMap c124_o) (j * 2 + 0) : Int))) := t1
  have q0 : (l.flatMap c124_o)[j * 2 + 0]? = some (.str ((l[j]).1)) := (flat_at zc124_o hj (by decide)).trans rfl
  have b0 := cnt_bd q0 h1
  rw [show cntV (.str ((l[j]).1)) = 1 from rfl] at b0
  have x0 : k + (cntP (l.flatMap c124_o) (j * 2 + 0) : Int) + 1 = k + (cntP (l.flatMap c124_o) (j * 2 + 1) : Int) := cnt_s1 (k := k) q0 rfl
  have n0 : 0 ≤ k + (cntP (l.flatMap c124_o) (j * 2 + 0) : Int) := cnt_nn h0
  have q1 : (l.flatMap c124_o)[j * 2 + 1]? = some (oL 3 ci64 ((l[j]).2)) := (flat_at zc124_o hj (by decide)).trans rfl
  have b1 := cnt_bd q1 h1
  have n1 : 0 ≤ k + (cntP (l.flatMap c124_o) (j * 2 + 1) : Int) := cnt_nn h0
  refine ms_seq (ms_rgn (mo_move t0 (mo_move t5 (mo_move t1 (mo_call mtx_hb (args1 rfl) ((mtx_calls n0 (by omega) w).mono ?_))))))
  rintro e0 w1 ⟨rfl, z0⟩
  have hI0 := hI0.grow hd hbs z0
  obtain ⟨u0, c0, f0, hI1⟩ := hI0.str' hd hnd q0 (mtx_len n0 (by omega))
  refine ⟨_, rfl, mo_ia tbOk rfl rfl rfl hj (mo_fa tbOk rfl rfl rfl (mo_store tbOk rfl rfl rfl rfl c0 f0 rfl (mo_nil ?_)))⟩
  generalize hw2 : World.setCell _ _ _ = w2 at hI1 ⊢
  refine ms_seq (ms_rgn (mo_move t1 (mo_add rfl (by omega) (by unfold mB at b0; omega) (mo_asg rfl (mo_nil ?_)))))
  rw [x0]
  have k1 := m_laws_markIntS ((l[j]).2) (k + (cntP (l.flatMap c124_o) (j * 2 + 1) : Int)) n1 b1
  obtain ⟨u1, c1, d1⟩ := hI1.own' hd hnd hbs q1 k1
  have d1 : Calls Try.prog 62 #[u1, .int .i64 (k + (cntP (l.flatMap c124_o) (j * 2 + 1) : Int))] w2 (fun e' w' => e' = .returned (.int .i64 (k + (cntP (l.flatMap c124_o) (j * 2 + 2) : Int))) ∧ Inv Try.prog St mtx 124 l.length (l.flatMap c124_o) k (.slice (some ⟨g, 0, none⟩) l.length cap) bs w0 (j * 2 + 2) w') := d1
  refine ms_rgn (mo_move t0 (mo_move t5 (mo_ia tbOk rfl rfl rfl hj (mo_fa tbOk rfl rfl rfl (mo_load tbOk rfl rfl rfl c1 (mo_move rfl (mo_call (lit_hb lit62) (args2 rfl rfl) (d1.mono ?_))))))))
  rintro e1 w3 ⟨rfl, hI2⟩
  refine ⟨_, rfl, mo_asg rfl (mo_nil ?_)⟩
  exact ⟨rfl, t0, rfl, t5, hI2⟩
theorem m_laws_markAtomS (l : List Y123) (k : Int) (h0 : 0 ≤ k) (h1 : k + cntVs (l.flatMap c124_o) ≤ mB) : MarkAt Try.prog 63 (.own 124 l.length (l.flatMap c124_o)) k (.own 124 l.length (mkVs mtx (l.flatMap c124_o) k)) (k + cntVs (l.flatMap c124_o)) :=
  mark_slice tbOk (r := 27) (ty := 59) (it := 3) (bt := 4) lit63 (by decide) rfl (flat_len zc124_o l) (by decide) (r_laws_markAtomS l k h0 h1 rfl)
def laws_markAtomS (x : List Y123) (k : Int) : Option ((List Y123) × Int) := chk (0 ≤ k ∧ k + (ce59 x : Int) ≤ mB) (some (me59 x k, k + ce59 x))
theorem laws_markAtomS_e {x : List Y123} {k : Int} (h0 : 0 ≤ k) (h1 : k + (ce59 x : Int) ≤ mB) : laws_markAtomS x k = some (me59 x k, k + ce59 x) := chk_pos ⟨h0, h1⟩
theorem laws_markAtomS_m {x : List Y123} {k : Int} {r : (List Y123) × Int} (h : laws_markAtomS x k = some r) : MarkAt Try.prog 63 (oL 124 c124_o x) k (oL 124 c124_o r.1) r.2 := by
  obtain ⟨⟨h0, h1⟩, h⟩ := chk_some h
  have hr := Option.some.inj h
  subst hr
  have hx := cntVs_flat (f := c124_o) (cnt := ce124) hc124 x
  have e := m_laws_markAtomS x k h0 (by rw [hx]; exact h1)
  rw [mkVs_flat (f := c124_o) (cnt := ce124) (mk := me124) hm124 hc124, hx] at e
  show MarkAt Try.prog 63 _ k (.own 124 (mkL ce124 me124 x k).length ((mkL ce124 me124 x k).flatMap c124_o)) (k + (cntL ce124 x : Int))
  rw [mkL_length]
  exact e
def ce62 (x : Y61) : Nat := (1) + (ce59 x.2.1) + (ce60 x.2.2)
def me62 (x : Y61) (k : Int) : Y61 := ((k), me59 x.2.1 (k + ((1 : Nat) : Int)), me60 x.2.2 (k + ((1 : Nat) : Int) + ((ce59 x.2.1 : Nat) : Int)))
theorem hm62 (x : Y61) (k : Int) : mkVs mtx (c62_ooo x) k = c62_ooo (me62 x k) := by
  have h : mkVs mtx [nI x.1, oL 124 c124_o x.2.1, oL 3 ci64 x.2.2] k = _ := (mkc (n := 1) (c' := V.int .i64 _) rfl rfl (mkc (mk_own hm124 hc124 _ _) (cnt_own hc124 _) (mkc (mk_own hmI hcI _ _) (cnt_own hcI _) (show mkVs mtx [] _ = [] from rfl))))
  refine h.trans ?_
  simp only [c62_ooo, me62, ce62, ce59, ce60, me59, me60, Int.add_assoc, ← Int.natCast_add, Nat.add_assoc, Int.natCast_add]
theorem hc62 (x : Y61) : cntVs (c62_ooo x) = ce62 x := by
  have h : cntVs [nI x.1, oL 124 c124_o x.2.1, oL 3 ci64 x.2.2] = _ := (cntc (n := 1) rfl (cntc (cnt_own hc124 _) (cntc (cnt_own hcI _) (show cntVs [] = 0 from rfl))))
  refine (show cntVs (c62_ooo x) = _ from h).trans ?_
  simp only [ce62, ce59, ce60, me59, me60, Nat.add_assoc, Nat.add_zero]
theorem dp62 (x : Y61) : deepL (c62_ooo x) = true := (dpc rfl (dpc (dpo dp124 _) (dpc (dpo (fun _ => rfl) _) rfl)))
def ce100 (x : Y99) : Nat := (1) + (ce60 x.2.1) + (ce60 x.2.2.1) + (ce62 x.2.2.2)
def me100 (x : Y99) (k : Int) : Y99 := ((k), me60 x.2.1 (k + ((1 : Nat) : Int)), me60 x.2.2.1 (k + ((1 : Nat) : Int) + ((ce60 x.2.1 : Nat) : Int)), me62 x.2.2.2 (k + ((1 : Nat) : Int) + ((ce60 x.2.1 : Nat) : Int) + ((ce60 x.2.2.1 : Nat) : Int)))
theorem hm100 (x : Y99) (k : Int) : mkVs mtx (c100_ooooo x) k = c100_ooooo (me100 x k) := by
  have h : mkVs mtx [nI x.1, oL 3 ci64 x.2.1, oL 3 ci64 x.2.2.1, nI x.2.2.2.1, oL 124 c124_o x.2.2.2.2.1, oL 3 ci64 x.2.2.2.2.2] k = _ := (mkc (n := 1) (c' := V.int .i64 _) rfl rfl (mkc (mk_own hmI hcI _ _) (cnt_own hcI _) (mkc (mk_own hmI hcI _ _) (cnt_own hcI _) (mkc (n := 1) (c' := V.int .i64 _) rfl rfl (mkc (mk_own hm124 hc124 _ _) (cnt_own hc124 _) (mkc (mk_own hmI hcI _ _) (cnt_own hcI _) (show mkVs mtx [] _ = [] from rfl)))))))
  refine h.trans ?_
  simp only [c100_ooooo, me100, ce100, c62_ooo, ce59, ce60, ce62, me59, me60, me62, Int.add_assoc, ← Int.natCast_add, Nat.add_assoc, Int.natCast_add]
theorem hc100 (x : Y99) : cntVs (c100_ooooo x) = ce100 x := by
  have h : cntVs [nI x.1, oL 3 ci64 x.2.1, oL 3 ci64 x.2.2.1, nI x.2.2.2.1, oL 124 c124_o x.2.2.2.2.1, oL 3 ci64 x.2.2.2.2.2] = _ := (cntc (n := 1) rfl (cntc (cnt_own hcI _) (cntc (cnt_own hcI _) (cntc (n := 1) rfl (cntc (cnt_own hc124 _) (cntc (cnt_own hcI _) (show cntVs [] = 0 from rfl)))))))
  refine (show cntVs (c100_ooooo x) = _ from h).trans ?_
  simp only [ce100, c62_ooo, ce59, ce60, ce62, me59, me60, me62, Nat.add_assoc, Nat.add_zero]
theorem dp100 (x : Y99) : deepL (c100_ooooo x) = true := (dpc rfl (dpc (dpo (fun _ => rfl) _) (dpc (dpo (fun _ => rfl) _) (dpc rfl (dpc (dpo dp124 _) (dpc (dpo (fun _ => rfl) _) rfl))))))
def ce53 (x : List Y99) : Nat := cntL ce100 x
def me53 (x : List Y99) (k : Int) : List Y99 := mkL ce100 me100 x k
theorem hm53 (x : List Y99) (k : Int) : mkVs mtx (c53_oooooo x) k = c53_oooooo (me53 x k) := by
  unfold c53_oooooo me53
  exact mkc (mk_own hm100 hc100 x k) (cnt_own hc100 x) rfl
theorem hc53 (x : List Y99) : cntVs (c53_oooooo x) = ce53 x := by
  unfold c53_oooooo ce53
  exact cntc (cnt_own hc100 x) rfl
theorem dp53 (x : List Y99) : deepL (c53_oooooo x) = true := dpc (dpo dp100 x) rfl
theorem r_laws_markCursorS (l : List Y99) (k : Int) (h0 : 0 ≤ k) (h1 : k + cntVs (l.flatMap c100_ooooo) ≤ mB) {body : LC} (hb : body = (.seq (.rgn [] [LL 12 (.move (.tmp 0)) 53,
      LL 13 (.move (.tmp 5)) 3,
      LL 14 (.move (.tmp 1)) 3,
      LL 15 (.indexAddr 53 (.tmp 12) (.tmp 13)) 0,
      LL 16 (.fieldAddr 100 (.tmp 15) 0) 0,
      ⟨none, (.store 3 (.tmp 16) (.tmp 14)), 0, none⟩])
    (.seq (.rgn [] [LL 17 (.move (.tmp 1)) 3,
      LL 18 (.binOp .add 3 (.tmp 17) (.const (.int .i64 1)) 3) 3,
      LL 1 (.assign (.tmp 18)) 3])
    (.seq (.rgn [] [LL 19 (.move (.tmp 0)) 53,
      LL 20 (.move (.tmp 5)) 3,
      LL 21 (.indexAddr 53 (.tmp 19) (.tmp 20)) 0,
      LL 22 (.fieldAddr 100 (.tmp 21) 1) 0,
      LL 23 (.load 60 (.tmp 22)) 60,
      LL 24 (.move (.tmp 1)) 3,
      LL 25 (.call { callee := (.value (.func 62)), args := #[(.tmp 23), (.tmp 24)], argTypes := #[60, 3] }) 3,
      LL 1 (.assign (.tmp 25)) 3])
    (.seq (.rgn [] [LL 26 (.move (.tmp 0)) 53,
      LL 27 (.move (.tmp 5)) 3,
      LL 28 (.indexAddr 53 (.tmp 26) (.tmp 27)) 0,
      LL 29 (.fieldAddr 100 (.tmp 28) 2) 0,
      LL 30 (.load 60 (.tmp 29)) 60,
      LL 31 (.move (.tmp 1)) 3,
      LL 32 (.call { callee := (.value (.func 62)), args := #[(.tmp 30), (.tmp 31)], argTypes := #[60, 3] }) 3,
      LL 1 (.assign (.tmp 32)) 3])
    (.seq (.rgn [] [LL 33 (.move (.tmp 0)) 53,
      LL 34 (.move (.tmp 5)) 3,
      LL 35 (.move (.tmp 1)) 3,
      LL 36 (.indexAddr 53 (.tmp 33) (.tmp 34)) 0,
      LL 37 (.fieldAddr 100 (.tmp 36) 3) 0,
      LL 38 (.fieldAddr 62 (.tmp 37) 0) 0,
      ⟨none, (.store 3 (.tmp 38) (.tmp 35)), 0, none⟩])
    (.seq (.rgn [] [LL 39 (.move (.tmp 1)) 3,
      LL 40 (.binOp .add 3 (.tmp 39) (.const (.int .i64 1)) 3) 3,
      LL 1 (.assign (.tmp 40)) 3])
    (.seq (.rgn [] [LL 41 (.move (.tmp 0)) 53,
      LL 42 (.move (.tmp 5)) 3,
      LL 43 (.indexAddr 53 (.tmp 41) (.tmp 42)) 0,
      LL 44 (.fieldAddr 100 (.tmp 43) 3) 0,
      LL 45 (.fieldAddr 62 (.tmp 44) 1) 0,
      LL 46 (.load 59 (.tmp 45)) 59,
      LL 47 (.move (.tmp 1)) 3,
      LL 48 (.call { callee := (.value (.func 63)), args := #[(.tmp 46), (.tmp 47)], argTypes := #[59, 3] }) 3,
      LL 1 (.assign (.tmp 48)) 3])
    (.rgn [] [LL 49 (.move (.tmp 0)) 53,
      LL 50 (.move (.tmp 5)) 3,
      LL 51 (.indexAddr 53 (.tmp 49) (.tmp 50)) 0,
      LL 52 (.fieldAddr 100 (.tmp 51) 3) 0,
      LL 53 (.fieldAddr 62 (.tmp 52) 2) 0,
      LL 54 (.load 60 (.tmp 53)) 60,
      LL 55 (.move (.tmp 1)) 3,
      LL 56 (.call { callee := (.value (.func 62)), args := #[(.tmp 54), (.tmp 55)], argTypes := #[60, 3] }) 3,
      LL 1 (.assign (.tmp 56)) 3]))))))))) : Round Try.prog 58 [] mtx 100 6 body l.length (l.flatMap c100_ooooo) k := by
  subst hb
  intro St w0 bs g cap j w T hnd hbs hj hI0 t0 t1 t5
  have hd : deepL (l.flatMap c100_ooooo) = true := deep_flat dp100 l
  have hI0 : Inv Try.prog St mtx 100 l.length (l.flatMap c100_ooooo) k (.slice (some ⟨g, 0, none⟩) l.length cap) bs w0 (j * 6 + 0) w := hI0
  have t1 : T 1 = some (.int .i64 (k + (cntP (l.flatMap c100_ooooo) (j * 6 + 0) : Int))) := t1
  have q0 : (l.flatMap c100_ooooo)[j * 6 + 0]? = some (nI ((l[j]).1)) := (flat_at zc100_ooooo hj (by decide)).trans rfl
  have b0 := cnt_bd q0 h1
  rw [show cntV (nI ((l[j]).1)) = 1 from rfl] at b0
  have x0 : k + (cntP (l.flatMap c100_ooooo) (j * 6 + 0) : Int) + 1 = k + (cntP (l.flatMap c100_ooooo) (j * 6 + 1) : Int) := cnt_s1 (k := k) q0 rfl
  have n0 : 0 ≤ k + (cntP (l.flatMap c100_ooooo) (j * 6 + 0) : Int) := cnt_nn h0
  have q1 : (l.flatMap c100_ooooo)[j * 6 + 1]? = some (oL 3 ci64 ((l[j]).2.1)) := (flat_at zc100_ooooo hj (by decide)).trans rfl
  have b1 := cnt_bd q1 h1
  have n1 : 0 ≤ k + (cntP (l.flatMap c100_ooooo) (j * 6 + 1) : Int) := cnt_nn h0
  have q2 : (l.flatMap c100_ooooo)[j * 6 + 2]? = some (oL 3 ci64 ((l[j]).2.2.1)) := (flat_at zc100_ooooo hj (by decide)).trans rfl
  have b2 := cnt_bd q2 h1
  have n2 : 0 ≤ k + (cntP (l.flatMap c100_ooooo) (j * 6 + 2) : Int) := cnt_nn h0
  have q3 : (l.flatMap c100_ooooo)[j * 6 + 3]? = some (nI (((l[j]).2.2.2).1)) := (flat_at zc100_ooooo hj (by decide)).trans rfl
  have b3 := cnt_bd q3 h1
  rw [show cntV (nI (((l[j]).2.2.2).1)) = 1 from rfl] at b3
  have x3 : k + (cntP (l.flatMap c100_ooooo) (j * 6 + 3) : Int) + 1 = k + (cntP (l.flatMap c100_ooooo) (j * 6 + 4) : Int) := cnt_s1 (k := k) q3 rfl
  have n3 : 0 ≤ k + (cntP (l.flatMap c100_ooooo) (j * 6 + 3) : Int) := cnt_nn h0
  have q4 : (l.flatMap c100_ooooo)[j * 6 + 4]? = some (oL 124 c124_o (((l[j]).2.2.2).2.1)) := (flat_at zc100_ooooo hj (by decide)).trans rfl
  have b4 := cnt_bd q4 h1
  have n4 : 0 ≤ k + (cntP (l.flatMap c100_ooooo) (j * 6 + 4) : Int) := cnt_nn h0
  have q5 : (l.flatMap c100_ooooo)[j * 6 + 5]? = some (oL 3 ci64 (((l[j]).2.2.2).2.2)) := (flat_at zc100_ooooo hj (by decide)).trans rfl
  have b5 := cnt_bd q5 h1
  have n5 : 0 ≤ k + (cntP (l.flatMap c100_ooooo) (j * 6 + 5) : Int) := cnt_nn h0
  obtain ⟨u0, c0, f0, hI1⟩ := hI0.int' hd hnd q0
  refine ms_seq (ms_rgn (mo_move t0 (mo_move t5 (mo_move t1 (mo_ia tbOk rfl rfl rfl hj (mo_fa tbOk rfl rfl rfl (mo_store tbOk rfl rfl rfl rfl c0 f0 rfl (mo_nil ?_))))))))
  generalize hw1 : World.setCell _ _ _ = w1 at hI1 ⊢
  refine ms_seq (ms_rgn (mo_move t1 (mo_add rfl (by omega) (by unfold mB at b0; omega) (mo_asg rfl (mo_nil ?_)))))
  rw [x0]
  have k1 := m_laws_markIntS ((l[j]).2.1) (k + (cntP (l.flatMap c100_ooooo) (j * 6 + 1) : Int)) n1 b1
  obtain ⟨u1, c1, d1⟩ := hI1.own' hd hnd hbs q1 k1
  have d1 : Calls Try.prog 62 #[u1, .int .i64 (k + (cntP (l.flatMap c100_ooooo) (j * 6 + 1) : Int))] w1 (fun e' w' => e' = .returned (.int .i64 (k + (cntP (l.flatMap c100_ooooo) (j * 6 + 2) : Int))) ∧ Inv Try.prog St mtx 100 l.length (l.flatMap c100_ooooo) k (.slice (some ⟨g, 0, none⟩) l.length cap) bs w0 (j * 6 + 2) w') := d1
  refine ms_seq (ms_rgn (mo_move t0 (mo_move t5 (mo_ia tbOk rfl rfl rfl hj (mo_fa tbOk rfl rfl rfl (mo_load tbOk rfl rfl rfl c1 (mo_move rfl (mo_call (lit_hb lit62) (args2 rfl rfl) (d1.mono ?_)))))))))
  rintro e1 w2 ⟨rfl, hI2⟩
  refine ⟨_, rfl, mo_asg rfl (mo_nil ?_)⟩
  have k2 := m_laws_markIntS ((l[j]).2.2.1) (k + (cntP (l.flatMap c100_ooooo) (j * 6 + 2) : Int)) n2 b2
  obtain ⟨u2, c2, d2⟩ := hI2.own' hd hnd hbs q2 k2
  have d2 : Calls Try.prog 62 #[u2, .int .i64 (k + (cntP (l.flatMap c100_ooooo) (j * 6 + 2) : Int))] w2 (fun e' w' => e' = .returned (.int .i64 (k + (cntP (l.flatMap c100_ooooo) (j * 6 + 3) : Int))) ∧ Inv Try.prog St mtx 100 l.length (l.flatMap c100_ooooo) k (.slice (some ⟨g, 0, none⟩) l.length cap) bs w0 (j * 6 + 3) w') := d2
  refine ms_seq (ms_rgn (mo_move t0 (mo_move t5 (mo_ia tbOk rfl rfl rfl hj (mo_fa tbOk rfl rfl rfl (mo_load tbOk rfl rfl rfl c2 (mo_move rfl (mo_call (lit_hb lit62) (args2 rfl rfl) (d2.mono ?_)))))))))
  rintro e2 w3 ⟨rfl, hI3⟩
  refine ⟨_, rfl, mo_asg rfl (mo_nil ?_)⟩
  obtain ⟨u3, c3, f3, hI4⟩ := hI3.int' hd hnd q3
  refine ms_seq (ms_rgn (mo_move t0 (mo_move t5 (mo_move rfl (mo_ia tbOk rfl rfl rfl hj (mo_fa tbOk rfl rfl rfl (mo_fa tbOk rfl rfl rfl (mo_store tbOk rfl rfl rfl rfl c3 f3 rfl (mo_nil ?_)))))))))
  generalize hw4 : World.setCell _ _ _ = w4 at hI4 ⊢
  refine ms_seq (ms_rgn (mo_move rfl (mo_add rfl (by omega) (by unfold mB at b3; omega) (mo_asg rfl (mo_nil ?_)))))
  rw [x3]
  have k4 := m_laws_markAtomS (((l[j]).2.2.2).2.1) (k + (cntP (l.flatMap c100_ooooo) (j * 6 + 4) : Int)) n4 b4
  obtain ⟨u4, c4, d4⟩ := hI4.own' hd hnd hbs q4 k4
  have d4 : Calls Try.prog 63 #[u4, .int .i64 (k + (cntP (l.flatMap c100_ooooo) (j * 6 + 4) : Int))] w4 (fun e' w' => e' = .returned (.int .i64 (k + (cntP (l.flatMap c100_ooooo) (j * 6 + 5) : Int))) ∧ Inv Try.prog St mtx 100 l.length (l.flatMap c100_ooooo) k (.slice (some ⟨g, 0, none⟩) l.length cap) bs w0 (j * 6 + 5) w') := d4
  refine ms_seq (ms_rgn (mo_move t0 (mo_move t5 (mo_ia tbOk rfl rfl rfl hj (mo_fa tbOk rfl rfl rfl (mo_fa tbOk rfl rfl rfl (mo_load tbOk rfl rfl rfl c4 (mo_move rfl (mo_call (lit_hb lit63) (args2 rfl rfl) (d4.mono ?_))))))))))
  rintro e4 w5 ⟨rfl, hI5⟩
  refine ⟨_, rfl, mo_asg rfl (mo_nil ?_)⟩
  have k5 := m_laws_markIntS (((l[j]).2.2.2).2.2) (k + (cntP (l.flatMap c100_ooooo) (j * 6 + 5) : Int)) n5 b5
  obtain ⟨u5, c5, d5⟩ := hI5.own' hd hnd hbs q5 k5
  have d5 : Calls Try.prog 62 #[u5, .int .i64 (k + (cntP (l.flatMap c100_ooooo) (j * 6 + 5) : Int))] w5 (fun e' w' => e' = .returned (.int .i64 (k + (cntP (l.flatMap c100_ooooo) (j * 6 + 6) : Int))) ∧ Inv Try.prog St mtx 100 l.length (l.flatMap c100_ooooo) k (.slice (some ⟨g, 0, none⟩) l.length cap) bs w0 (j * 6 + 6) w') := d5
  refine ms_rgn (mo_move t0 (mo_move t5 (mo_ia tbOk rfl rfl rfl hj (mo_fa tbOk rfl rfl rfl (mo_fa tbOk rfl rfl rfl (mo_load tbOk rfl rfl rfl c5 (mo_move rfl (mo_call (lit_hb lit62) (args2 rfl rfl) (d5.mono ?_)))))))))
  rintro e5 w6 ⟨rfl, hI6⟩
  refine ⟨_, rfl, mo_asg rfl (mo_nil ?_)⟩
  exact ⟨rfl, t0, rfl, t5, hI6⟩
theorem m_laws_markCursorS (l : List Y99) (k : Int) (h0 : 0 ≤ k) (h1 : k + cntVs (l.flatMap c100_ooooo) ≤ mB) : MarkAt Try.prog 25 (.own 100 l.length (l.flatMap c100_ooooo)) k (.own 100 l.length (mkVs mtx (l.flatMap c100_ooooo) k)) (k + cntVs (l.flatMap c100_ooooo)) :=
  mark_slice tbOk (r := 57) (ty := 53) (it := 3) (bt := 4) lit25 (by decide) rfl (flat_len zc100_ooooo l) (by decide) (r_laws_markCursorS l k h0 h1 rfl)
def laws_markCursorS (x : List Y99) (k : Int) : Option ((List Y99) × Int) := chk (0 ≤ k ∧ k + (ce53 x : Int) ≤ mB) (some (me53 x k, k + ce53 x))
theorem laws_markCursorS_e {x : List Y99} {k : Int} (h0 : 0 ≤ k) (h1 : k + (ce53 x : Int) ≤ mB) : laws_markCursorS x k = some (me53 x k, k + ce53 x) := chk_pos ⟨h0, h1⟩
theorem laws_markCursorS_m {x : List Y99} {k : Int} {r : (List Y99) × Int} (h : laws_markCursorS x k = some r) : MarkAt Try.prog 25 (oL 100 c100_ooooo x) k (oL 100 c100_ooooo r.1) r.2 := by
  obtain ⟨⟨h0, h1⟩, h⟩ := chk_some h
  have hr := Option.some.inj h
  subst hr
  have hx := cntVs_flat (f := c100_ooooo) (cnt := ce100) hc100 x
  have e := m_laws_markCursorS x k h0 (by rw [hx]; exact h1)
  rw [mkVs_flat (f := c100_ooooo) (cnt := ce100) (mk := me100) hm100 hc100, hx] at e
  show MarkAt Try.prog 25 _ k (.own 100 (mkL ce100 me100 x k).length ((mkL ce100 me100 x k).flatMap c100_ooooo)) (k + (cntL ce100 x : Int))
  rw [mkL_length]
  exact e
end Go.Proofs.Ytcoalfphehhadaa
