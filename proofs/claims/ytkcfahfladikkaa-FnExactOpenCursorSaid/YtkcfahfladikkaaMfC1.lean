/-
  What the functions that mark do: contracts and typed functions, printed by genmark.py. No conditions.
-/
import Derived.Test.YtkcfahfladikkaaMxC1
namespace Go.Proofs.Ytkcfahfladikkaa
open Go.RowKit
set_option linter.unusedVariables false
set_option linter.unusedSimpArgs false
set_option maxRecDepth 100000
def c25_d (x : List Int) : List V := [dL ci64 x]
theorem zc25_d (x : List Int) : (c25_d x).length = 1 := rfl
theorem ec25_d (x : List Int) : erL (c25_d x) = c25_d x := (erc (erD eci64 _) rfl)
def c25_o (x : List Int) : List V := [oL 3 ci64 x]
theorem zc25_o (x : List Int) : (c25_o x).length = 1 := rfl
theorem ec25_o (x : List Int) : erL (c25_o x) = c25_d x := (erc (erO eci64 _) rfl)
def c82_dd (x : List (List Int)) : List V := [dL c25_d x]
theorem zc82_dd (x : List (List Int)) : (c82_dd x).length = 1 := rfl
theorem ec82_dd (x : List (List Int)) : erL (c82_dd x) = c82_dd x := (erc (erD ec25_d _) rfl)
def c82_oo (x : List (List Int)) : List V := [oL 25 c25_o x]
theorem zc82_oo (x : List (List Int)) : (c82_oo x).length = 1 := rfl
theorem ec82_oo (x : List (List Int)) : erL (c82_oo x) = c82_dd x := (erc (erO ec25_o _) rfl)
abbrev Y127 := Int × (List (List Int))
def c128_dd (x : Y127) : List V := [nI x.1, dL c25_d x.2]
theorem zc128_dd (x : Y127) : (c128_dd x).length = 2 := rfl
theorem ec128_dd (x : Y127) : erL (c128_dd x) = c128_dd x := (erc rfl (erc (erD ec25_d _) rfl))
def c128_oo (x : Y127) : List V := [nI x.1, oL 25 c25_o x.2]
theorem zc128_oo (x : Y127) : (c128_oo x).length = 2 := rfl
theorem ec128_oo (x : Y127) : erL (c128_oo x) = c128_dd x := (erc rfl (erc (erO ec25_o _) rfl))
abbrev Y207 := (List UInt8) × Y127
def c208_dd (x : Y207) : List V := [.str x.1, nI x.2.1, dL c25_d x.2.2]
theorem zc208_dd (x : Y207) : (c208_dd x).length = 3 := rfl
theorem ec208_dd (x : Y207) : erL (c208_dd x) = c208_dd x := (erc rfl (erc rfl (erc (erD ec25_d _) rfl)))
def c208_oo (x : Y207) : List V := [.str x.1, nI x.2.1, oL 25 c25_o x.2.2]
theorem zc208_oo (x : Y207) : (c208_oo x).length = 3 := rfl
theorem ec208_oo (x : Y207) : erL (c208_oo x) = c208_dd x := (erc rfl (erc rfl (erc (erO ec25_o _) rfl)))
def c31_ddd (x : List Y207) : List V := [dL c208_dd x]
theorem zc31_ddd (x : List Y207) : (c31_ddd x).length = 1 := rfl
theorem ec31_ddd (x : List Y207) : erL (c31_ddd x) = c31_ddd x := (erc (erD ec208_dd _) rfl)
def c31_ooo (x : List Y207) : List V := [oL 208 c208_oo x]
theorem zc31_ooo (x : List Y207) : (c31_ooo x).length = 1 := rfl
theorem ec31_ooo (x : List Y207) : erL (c31_ooo x) = c31_ddd x := (erc (erO ec208_oo _) rfl)
def c33_ddd (x : List Y207) : List V := [dL c208_dd x]
theorem zc33_ddd (x : List Y207) : (c33_ddd x).length = 1 := rfl
theorem ec33_ddd (x : List Y207) : erL (c33_ddd x) = c33_ddd x := (erc (erD ec208_dd _) rfl)
def c33_ooo (x : List Y207) : List V := [oL 208 c208_oo x]
theorem zc33_ooo (x : List Y207) : (c33_ooo x).length = 1 := rfl
theorem ec33_ooo (x : List Y207) : erL (c33_ooo x) = c33_ddd x := (erc (erO ec208_oo _) rfl)
def c50_dddd (x : List (List Y207)) : List V := [dL c33_ddd x]
theorem zc50_dddd (x : List (List Y207)) : (c50_dddd x).length = 1 := rfl
theorem ec50_dddd (x : List (List Y207)) : erL (c50_dddd x) = c50_dddd x := (erc (erD ec33_ddd _) rfl)
def c50_oooo (x : List (List Y207)) : List V := [oL 33 c33_ooo x]
theorem zc50_oooo (x : List (List Y207)) : (c50_oooo x).length = 1 := rfl
theorem ec50_oooo (x : List (List Y207)) : erL (c50_oooo x) = c50_dddd x := (erc (erO ec33_ooo _) rfl)
abbrev Y51 := Int × (List (List Y207))
def c52_dddd (x : Y51) : List V := [nI x.1, dL c33_ddd x.2]
theorem zc52_dddd (x : Y51) : (c52_dddd x).length = 2 := rfl
theorem ec52_dddd (x : Y51) : erL (c52_dddd x) = c52_dddd x := (erc rfl (erc (erD ec33_ddd _) rfl))
def c52_oooo (x : Y51) : List V := [nI x.1, oL 33 c33_ooo x.2]
theorem zc52_oooo (x : Y51) : (c52_oooo x).length = 2 := rfl
theorem ec52_oooo (x : Y51) : erL (c52_oooo x) = c52_dddd x := (erc rfl (erc (erO ec33_ooo _) rfl))
abbrev Y194 := (List UInt8) × (List Int)
def c195_d (x : Y194) : List V := [.str x.1, dL ci64 x.2]
theorem zc195_d (x : Y194) : (c195_d x).length = 2 := rfl
theorem ec195_d (x : Y194) : erL (c195_d x) = c195_d x := (erc rfl (erc (erD eci64 _) rfl))
def c195_o (x : Y194) : List V := [.str x.1, oL 3 ci64 x.2]
theorem zc195_o (x : Y194) : (c195_o x).length = 2 := rfl
theorem ec195_o (x : Y194) : erL (c195_o x) = c195_d x := (erc rfl (erc (erO eci64 _) rfl))
def c90_dd (x : List Y194) : List V := [dL c195_d x]
theorem zc90_dd (x : List Y194) : (c90_dd x).length = 1 := rfl
theorem ec90_dd (x : List Y194) : erL (c90_dd x) = c90_dd x := (erc (erD ec195_d _) rfl)
def c90_oo (x : List Y194) : List V := [oL 195 c195_o x]
theorem zc90_oo (x : List Y194) : (c90_oo x).length = 1 := rfl
theorem ec90_oo (x : List Y194) : erL (c90_oo x) = c90_dd x := (erc (erO ec195_o _) rfl)
abbrev Y91 := Int × (List Y194) × (List Int)
def c92_ddd (x : Y91) : List V := [nI x.1, dL c195_d x.2.1, dL ci64 x.2.2]
theorem zc92_ddd (x : Y91) : (c92_ddd x).length = 3 := rfl
theorem ec92_ddd (x : Y91) : erL (c92_ddd x) = c92_ddd x := (erc rfl (erc (erD ec195_d _) (erc (erD eci64 _) rfl)))
def c92_ooo (x : Y91) : List V := [nI x.1, oL 195 c195_o x.2.1, oL 3 ci64 x.2.2]
theorem zc92_ooo (x : Y91) : (c92_ooo x).length = 3 := rfl
theorem ec92_ooo (x : Y91) : erL (c92_ooo x) = c92_ddd x := (erc rfl (erc (erO ec195_o _) (erc (erO eci64 _) rfl)))
abbrev Y107 := Int × (List Int) × (List Int) × Y91
def c108_ddddd (x : Y107) : List V := [nI x.1, dL ci64 x.2.1, dL ci64 x.2.2.1, nI x.2.2.2.1, dL c195_d x.2.2.2.2.1, dL ci64 x.2.2.2.2.2]
theorem zc108_ddddd (x : Y107) : (c108_ddddd x).length = 6 := rfl
theorem ec108_ddddd (x : Y107) : erL (c108_ddddd x) = c108_ddddd x := (erc rfl (erc (erD eci64 _) (erc (erD eci64 _) (erc rfl (erc (erD ec195_d _) (erc (erD eci64 _) rfl))))))
def c108_ooooo (x : Y107) : List V := [nI x.1, oL 3 ci64 x.2.1, oL 3 ci64 x.2.2.1, nI x.2.2.2.1, oL 195 c195_o x.2.2.2.2.1, oL 3 ci64 x.2.2.2.2.2]
theorem zc108_ooooo (x : Y107) : (c108_ooooo x).length = 6 := rfl
theorem ec108_ooooo (x : Y107) : erL (c108_ooooo x) = c108_ddddd x := (erc rfl (erc (erO eci64 _) (erc (erO eci64 _) (erc rfl (erc (erO ec195_o _) (erc (erO eci64 _) rfl))))))
def ce25 (x : List Int) : Nat := cntL oneI x
def me25 (x : List Int) (k : Int) : List Int := mkL oneI markI x k
theorem hm25 (x : List Int) (k : Int) : mkVs mtx (c25_o x) k = c25_o (me25 x k) := by
  unfold c25_o me25
  exact mkc (mk_own hmI hcI x k) (cnt_own hcI x) rfl
theorem hc25 (x : List Int) : cntVs (c25_o x) = ce25 x := by
  unfold c25_o ce25
  exact cntc (cnt_own hcI x) rfl
theorem dp25 (x : List Int) : deepL (c25_o x) = true := dpc (dpo (fun _ => rfl) x) rfl
theorem r_laws_markIntS (l : List Int) (k : Int) (h0 : 0 ≤ k) (h1 : k + cntVs (l.flatMap ci64) ≤ mB) {body : LC} (hb : body = (.seq (.rgn [] [LL 12 (.move (.tmp 0)) 25,
      LL 13 (.move (.tmp 5)) 3,
      LL 14 (.move (.tmp 1)) 3,
      LL 15 (.indexAddr 25 (.tmp 12) (.tmp 13)) 0,
      ⟨none, (.store 3 (.tmp 15) (.tmp 14)), 0, none⟩])
    (.rgn [] [LL 16 (.move (.tmp 1)) 3,
      LL 17 (.binOp .add 3 (.tmp 16) (.const (.int .i64 1)) 3) 3,
      LL 1 (.assign (.tmp 17)) 3]))) : Round Try.prog 19 [] mtx 3 1 body l.length (l.flatMap ci64) k := by
  subst hb
  intro St w0 bs g cap j w T hnd hbs hj hI0 t0 t1 t5
  have hd : deepL (l.flatMap ci64) = true := deep_flat (fun _ => rfl) l
  have hI0 : Inv Try.prog St mtx 3 l.length (l.flatMap ci64) k (.slice (some ⟨g, 0, none⟩) l.length cap) bs w0 (j * 1 + 0) w := hI0
  have t1 : T 1 = some (.int .i64 (k + (cntP (l.flatMap ci64) (j * 1 + 0) : Int))) := t1
  have q0 : (l.flatMap ci64)[j * 1 + 0]? = some (nI (l[j])) := (flat_at zci64 hj (by decide)).trans rfl
  have b0 := cnt_bd q0 h1
  rw [show cntV (nI (l[j])) = 1 from rfl] at b0
  have x0 : k + (cntP (l.flatMap ci64) (j * 1 + 0) : Int) + 1 = k + (cntP (l.flatMap ci64) (j * 1 + 1) : Int) := cnt_s1 (k := k) q0 rfl
  have n0 : 0 ≤ k + (cntP (l.flatMap ci64) (j * 1 + 0) : Int) := cnt_nn h0
  obtain ⟨u0, c0, f0, hI1⟩ := hI0.int' hd hnd q0
  refine ms_seq (ms_rgn (mo_move t0 (mo_move t5 (mo_move t1 (mo_ia tbOk rfl rfl rfl hj (mo_store tbOk rfl rfl rfl rfl c0 f0 rfl (mo_nil ?_)))))))
  generalize hw1 : World.setCell _ _ _ = w1 at hI1 ⊢
  refine ms_rgn (mo_move t1 (mo_add rfl (by omega) (by unfold mB at b0; omega) (mo_asg rfl (mo_nil ?_))))
  rw [x0]
  exact ⟨rfl, t0, rfl, t5, hI1⟩
theorem m_laws_markIntS (l : List Int) (k : Int) (h0 : 0 ≤ k) (h1 : k + cntVs (l.flatMap ci64) ≤ mB) : MarkAt Try.prog 24 (.own 3 l.length (l.flatMap ci64)) k (.own 3 l.length (mkVs mtx (l.flatMap ci64) k)) (k + cntVs (l.flatMap ci64)) :=
  mark_slice tbOk (r := 18) (ty := 25) (it := 3) (bt := 4) lit24 (by decide) rfl (flat_len zci64 l) (by decide) (r_laws_markIntS l k h0 h1 rfl)
def laws_markIntS (x : List Int) (k : Int) : Option ((List Int) × Int) := chk (0 ≤ k ∧ k + (ce25 x : Int) ≤ mB) (some (me25 x k, k + ce25 x))
theorem laws_markIntS_e {x : List Int} {k : Int} (h0 : 0 ≤ k) (h1 : k + (ce25 x : Int) ≤ mB) : laws_markIntS x k = some (me25 x k, k + ce25 x) := chk_pos ⟨h0, h1⟩
theorem laws_markIntS_m {x : List Int} {k : Int} {r : (List Int) × Int} (h : laws_markIntS x k = some r) : MarkAt Try.prog 24 (oL 3 ci64 x) k (oL 3 ci64 r.1) r.2 := by
  obtain ⟨⟨h0, h1⟩, h⟩ := chk_some h
  have hr := Option.some.inj h
  subst hr
  have hx := cntVs_flat (f := ci64) (cnt := oneI) hcI x
  have e := m_laws_markIntS x k h0 (by rw [hx]; exact h1)
  rw [mkVs_flat (f := ci64) (cnt := oneI) (mk := markI) hmI hcI, hx] at e
  show MarkAt Try.prog 24 _ k (.own 3 (mkL oneI markI x k).length ((mkL oneI markI x k).flatMap ci64)) (k + (cntL oneI x : Int))
  rw [mkL_length]
  exact e
def ce82 (x : List (List Int)) : Nat := cntL ce25 x
def me82 (x : List (List Int)) (k : Int) : List (List Int) := mkL ce25 me25 x k
theorem hm82 (x : List (List Int)) (k : Int) : mkVs mtx (c82_oo x) k = c82_oo (me82 x k) := by
  unfold c82_oo me82
  exact mkc (mk_own hm25 hc25 x k) (cnt_own hc25 x) rfl
theorem hc82 (x : List (List Int)) : cntVs (c82_oo x) = ce82 x := by
  unfold c82_oo ce82
  exact cntc (cnt_own hc25 x) rfl
theorem dp82 (x : List (List Int)) : deepL (c82_oo x) = true := dpc (dpo dp25 x) rfl
theorem r_laws_markIntSS (l : List (List Int)) (k : Int) (h0 : 0 ≤ k) (h1 : k + cntVs (l.flatMap c25_o) ≤ mB) {body : LC} (hb : body = (.rgn [] [LL 12 (.move (.tmp 0)) 82,
      LL 13 (.move (.tmp 5)) 3,
      LL 14 (.indexAddr 82 (.tmp 12) (.tmp 13)) 0,
      LL 15 (.load 25 (.tmp 14)) 25,
      LL 16 (.move (.tmp 1)) 3,
      LL 17 (.call { callee := (.value (.func 24)), args := #[(.tmp 15), (.tmp 16)], argTypes := #[25, 3] }) 3,
      LL 1 (.assign (.tmp 17)) 3])) : Round Try.prog 19 [] mtx 25 1 body l.length (l.flatMap c25_o) k := by
  subst hb
  intro St w0 bs g cap j w T hnd hbs hj hI0 t0 t1 t5
  have hd : deepL (l.flatMap c25_o) = true := deep_flat dp25 l
  have hI0 : Inv Try.prog St mtx 25 l.length (l.flatMap c25_o) k (.slice (some ⟨g, 0, none⟩) l.length cap) bs w0 (j * 1 + 0) w := hI0
  have t1 : T 1 = some (.int .i64 (k + (cntP (l.flatMap c25_o) (j * 1 + 0) : Int))) := t1
  have q0 : (l.flatMap c25_o)[j * 1 + 0]? = some (oL 3 ci64 (l[j])) := (flat_at zc25_o hj (by decide)).trans rfl
  have b0 := cnt_bd q0 h1
  have n0 : 0 ≤ k + (cntP (l.flatMap c25_o) (j * 1 + 0) : Int) := cnt_nn h0
  have k0 := m_laws_markIntS (l[j]) (k + (cntP (l.flatMap c25_o) (j * 1 + 0) : Int)) n0 b0
  obtain ⟨u0, c0, d0⟩ := hI0.own' hd hnd hbs q0 k0
  have d0 : Calls Try.prog 24 #[u0, .int .i64 (k + (cntP (l.flatMap c25_o) (j * 1 + 0) : Int))] w (fun e' w' => e' = .returned (.int .i64 (k + (cntP (l.flatMap c25_o) (j * 1 + 1) : Int))) ∧ Inv Try.prog St mtx 25 l.length (l.flatMap c25_o) k (.slice (some ⟨g, 0, none⟩) l.length cap) bs w0 (j * 1 + 1) w') := d0
  refine ms_rgn (mo_move t0 (mo_move t5 (mo_ia tbOk rfl rfl rfl hj (mo_load tbOk rfl rfl rfl c0 (mo_move t1 (mo_call (lit_hb lit24) (args2 rfl rfl) (d0.mono ?_)))))))
  rintro e0 w1 ⟨rfl, hI1⟩
  refine ⟨_, rfl, mo_asg rfl (mo_nil ?_)⟩
  exact ⟨rfl, t0, rfl, t5, hI1⟩
theorem m_laws_markIntSS (l : List (List Int)) (k : Int) (h0 : 0 ≤ k) (h1 : k + cntVs (l.flatMap c25_o) ≤ mB) : MarkAt Try.prog 178 (.own 25 l.length (l.flatMap c25_o)) k (.own 25 l.length (mkVs mtx (l.flatMap c25_o) k)) (k + cntVs (l.flatMap c25_o)) :=
  mark_slice tbOk (r := 18) (ty := 82) (it := 3) (bt := 4) lit178 (by decide) rfl (flat_len zc25_o l) (by decide) (r_laws_markIntSS l k h0 h1 rfl)
def laws_markIntSS (x : List (List Int)) (k : Int) : Option ((List (List Int)) × Int) := chk (0 ≤ k ∧ k + (ce82 x : Int) ≤ mB) (some (me82 x k, k + ce82 x))
theorem laws_markIntSS_e {x : List (List Int)} {k : Int} (h0 : 0 ≤ k) (h1 : k + (ce82 x : Int) ≤ mB) : laws_markIntSS x k = some (me82 x k, k + ce82 x) := chk_pos ⟨h0, h1⟩
theorem laws_markIntSS_m {x : List (List Int)} {k : Int} {r : (List (List Int)) × Int} (h : laws_markIntSS x k = some r) : MarkAt Try.prog 178 (oL 25 c25_o x) k (oL 25 c25_o r.1) r.2 := by
  obtain ⟨⟨h0, h1⟩, h⟩ := chk_some h
  have hr := Option.some.inj h
  subst hr
  have hx := cntVs_flat (f := c25_o) (cnt := ce25) hc25 x
  have e := m_laws_markIntSS x k h0 (by rw [hx]; exact h1)
  rw [mkVs_flat (f := c25_o) (cnt := ce25) (mk := me25) hm25 hc25, hx] at e
  show MarkAt Try.prog 178 _ k (.own 25 (mkL ce25 me25 x k).length ((mkL ce25 me25 x k).flatMap c25_o)) (k + (cntL ce25 x : Int))
  rw [mkL_length]
  exact e
def ce128 (x : Y127) : Nat := (1) + (ce82 x.2)
def me128 (x : Y127) (k : Int) : Y127 := ((k), me82 x.2 (k + ((1 : Nat) : Int)))
theorem hm128 (x : Y127) (k : Int) : mkVs mtx (c128_oo x) k = c128_oo (me128 x k) := by
  have h : mkVs mtx [nI x.1, oL 25 c25_o x.2] k = _ := (mkc (n := 1) (c' := V.int .i64 _) rfl rfl (mkc (mk_own hm25 hc25 _ _) (cnt_own hc25 _) (show mkVs mtx [] _ = [] from rfl)))
  refine h.trans ?_
  simp only [c128_oo, me128, ce128, ce82, me82, Int.add_assoc, ← Int.natCast_add, Nat.add_assoc, Int.natCast_add]
theorem hc128 (x : Y127) : cntVs (c128_oo x) = ce128 x := by
  have h : cntVs [nI x.1, oL 25 c25_o x.2] = _ := (cntc (n := 1) rfl (cntc (cnt_own hc25 _) (show cntVs [] = 0 from rfl)))
  refine (show cntVs (c128_oo x) = _ from h).trans ?_
  simp only [ce128, ce82, me82, Nat.add_assoc, Nat.add_zero]
theorem dp128 (x : Y127) : deepL (c128_oo x) = true := (dpc rfl (dpc (dpo dp25 _) rfl))
def ce208 (x : Y207) : Nat := (1) + (ce128 x.2)
def me208 (x : Y207) (k : Int) : Y207 := (mtx (k), me128 x.2 (k + ((1 : Nat) : Int)))
theorem hm208 (x : Y207) (k : Int) : mkVs mtx (c208_oo x) k = c208_oo (me208 x k) := by
  have h : mkVs mtx [.str x.1, nI x.2.1, oL 25 c25_o x.2.2] k = _ := (mkc (n := 1) (c' := V.str _) rfl rfl (mkc (n := 1) (c' := V.int .i64 _) rfl rfl (mkc (mk_own hm25 hc25 _ _) (cnt_own hc25 _) (show mkVs mtx [] _ = [] from rfl))))
  refine h.trans ?_
  simp only [c208_oo, me208, ce208, c128_oo, ce128, ce82, me128, me82, Int.add_assoc, ← Int.natCast_add, Nat.add_assoc, Int.natCast_add]
theorem hc208 (x : Y207) : cntVs (c208_oo x) = ce208 x := by
  have h : cntVs [.str x.1, nI x.2.1, oL 25 c25_o x.2.2] = _ := (cntc (n := 1) rfl (cntc (n := 1) rfl (cntc (cnt_own hc25 _) (show cntVs [] = 0 from rfl))))
  refine (show cntVs (c208_oo x) = _ from h).trans ?_
  simp only [ce208, c128_oo, ce128, ce82, me128, me82, Nat.add_assoc, Nat.add_zero]
theorem dp208 (x : Y207) : deepL (c208_oo x) = true := (dpc rfl (dpc rfl (dpc (dpo dp25 _) rfl)))
def ce31 (x : List Y207) : Nat := cntL ce208 x
def me31 (x : List Y207) (k : Int) : List Y207 := mkL ce208 me208 x k
theorem hm31 (x : List Y207) (k : Int) : mkVs mtx (c31_ooo x) k = c31_ooo (me31 x k) := by
  unfold c31_ooo me31
  exact mkc (mk_own hm208 hc208 x k) (cnt_own hc208 x) rfl
theorem hc31 (x : List Y207) : cntVs (c31_ooo x) = ce31 x := by
  unfold c31_ooo ce31
  exact cntc (cnt_own hc208 x) rfl
theorem dp31 (x : List Y207) : deepL (c31_ooo x) = true := dpc (dpo dp208 x) rfl
theorem r_laws_markTableS (l : List Y207) (k : Int) (h0 : 0 ≤ k) (h1 : k + cntVs (l.flatMap c208_oo) ≤ mB) {body : LC} (hb : body = (.seq (.rgn [] [LL 12 (.move (.tmp 0)) 31,
      LL 13 (.move (.tmp 5)) 3,
      LL 14 (.move (.tmp 1)) 3,
      LL 15 (.call { callee := (.value (.func 177)), args := #[(.tmp 14)], argTypes := #[3] }) 9,
      LL 16 (.indexAddr 31 (.tmp 12) (.tmp 13)) 0,
      LL 17 (.fieldAddr 208 (.tmp 16) 0) 0,
      ⟨none, (.store 9 (.tmp 17) (.tmp 15)), 0, none⟩])
    (.seq (.rgn [] [LL 18 (.move (.tmp 1)) 3,
      LL 19 (.binOp .add 3 (.tmp 18) (.const (.int .i64 1)) 3) 3,
      LL 1 (.assign (.tmp 19)) 3])
    (.seq (.rgn [] [LL 20 (.move (.tmp 0)) 31,
      LL 21 (.move (.tmp 5)) 3,
      LL 22 (.move (.tmp 1)) 3,
      LL 23 (.indexAddr 31 (.tmp 20) (.tmp 21)) 0,
      LL 24 (.fieldAddr 208 (.tmp 23) 1) 0,
      LL 25 (.fieldAddr 128 (.tmp 24) 0) 0,
      ⟨none, (.store 3 (.tmp 25) (.tmp 22)), 0, none⟩])
    (.seq (.rgn [] [LL 26 (.move (.tmp 1)) 3,
      LL 27 (.binOp .add 3 (.tmp 26) (.const (.int .i64 1)) 3) 3,
      LL 1 (.assign (.tmp 27)) 3])
    (.rgn [] [LL 28 (.move (.tmp 0)) 31,
      LL 29 (.move (.tmp 5)) 3,
      LL 30 (.indexAddr 31 (.tmp 28) (.tmp 29)) 0,
      LL 31 (.fieldAddr 208 (.tmp 30) 1) 0,
      LL 32 (.fieldAddr 128 (.tmp 31) 1) 0,
      LL 33 (.load 82 (.tmp 32)) 82,
      LL 34 (.move (.tmp 1)) 3,
      LL 35 (.call { callee := (.value (.func 178)), args := #[(.tmp 33), (.tmp 34)], argTypes := #[82, 3] }) 3,
      LL 1 (.assign (.tmp 35)) 3])))))) : Round Try.prog 37 [] mtx 208 3 body l.length (l.flatMap c208_oo) k := by
  subst hb
  intro St w0 bs g cap j w T hnd hbs hj hI0 t0 t1 t5
  have hd : deepL (l.flatMap c208_oo) = true := deep_flat dp208 l
  have hI0 : Inv Try.prog St mtx 208 l.length (l.flatMap c208_oo) k (.slice (some ⟨g, 0, none⟩) l.length cap) bs w0 (j * 3 + 0) w := hI0
  have t1 : T 1 = some (.int .i64 (k + (cntP (l.flatMap c208_oo) (j * 3 + 0) : Int))) := t1
  have q0 : (l.flatMap c208_oo)[j * 3 + 0]? = some (.str ((l[j]).1)) := (flat_at zc208_oo hj (by decide)).trans rfl
  have b0 := cnt_bd q0 h1
  rw [show cntV (.str ((l[j]).1)) = 1 from rfl] at b0
  have x0 : k + (cntP (l.flatMap c208_oo) (j * 3 + 0) : Int) + 1 = k + (cntP (l.flatMap c208_oo) (j * 3 + 1) : Int) := cnt_s1 (k := k) q0 rfl
  have n0 : 0 ≤ k + (cntP (l.flatMap c208_oo) (j * 3 + 0) : Int) := cnt_nn h0
  have q1 : (l.flatMap c208_oo)[j * 3 + 1]? = some (nI (((l[j]).2).1)) := (flat_at zc208_oo hj (by decide)).trans rfl
  have b1 := cnt_bd q1 h1
  rw [show cntV (nI (((l[j]).2).1)) = 1 from rfl] at b1
  have x1 : k + (cntP (l.flatMap c208_oo) (j * 3 + 1) : Int) + 1 = k + (cntP (l.flatMap c208_oo) (j * 3 + 2) : Int) := cnt_s1 (k := k) q1 rfl
  have n1 : 0 ≤ k + (cntP (l.flatMap c208_oo) (j * 3 + 1) : Int) := cnt_nn h0
  have q2 : (l.flatMap c208_oo)[j * 3 + 2]? = some (oL 25 c25_o (((l[j]).2).2)) := (flat_at zc208_oo hj (by decide)).trans rfl
  have b2 := cnt_bd q2 h1
  have n2 : 0 ≤ k + (cntP (l.flatMap c208_oo) (j * 3 + 2) : Int) := cnt_nn h0
  refine ms_seq (ms_rgn (mo_move t0 (mo_move t5 (mo_move t1 (mo_call mtx_hb (args1 rfl) ((mtx_calls n0 (by omega) w).mono ?_))))))
  rintro e0 w1 ⟨rfl, z0⟩
  have hI0 := hI0.grow hd hbs z0
  obtain ⟨u0, c0, f0, hI1⟩ := hI0.str' hd hnd q0 (mtx_len n0 (by omega))
  refine ⟨_, rfl, mo_ia tbOk rfl rfl rfl hj (mo_fa tbOk rfl rfl rfl (mo_store tbOk rfl rfl rfl rfl c0 f0 rfl (mo_nil ?_)))⟩
  generalize hw2 : World.setCell _ _ _ = w2 at hI1 ⊢
  refine ms_seq (ms_rgn (mo_move t1 (mo_add rfl (by omega) (by unfold mB at b0; omega) (mo_asg rfl (mo_nil ?_)))))
  rw [x0]
  obtain ⟨u1, c1, f1, hI2⟩ := hI1.int' hd hnd q1
  refine ms_seq (ms_rgn (mo_move t0 (mo_move t5 (mo_move rfl (mo_ia tbOk rfl rfl rfl hj (mo_fa tbOk rfl rfl rfl (mo_fa tbOk rfl rfl rfl (mo_store tbOk rfl rfl rfl rfl c1 f1 rfl (mo_nil ?_)))))))))
  generalize hw3 : World.setCell _ _ _ = w3 at hI2 ⊢
  refine ms_seq (ms_rgn (mo_move rfl (mo_add rfl (by omega) (by unfold mB at b1; omega) (mo_asg rfl (mo_nil ?_)))))
  rw [x1]
  have k2 := m_laws_markIntSS (((l[j]).2).2) (k + (cntP (l.flatMap c208_oo) (j * 3 + 2) : Int)) n2 b2
  obtain ⟨u2, c2, d2⟩ := hI2.own' hd hnd hbs q2 k2
  have d2 : Calls Try.prog 178 #[u2, .int .i64 (k + (cntP (l.flatMap c208_oo) (j * 3 + 2) : Int))] w3 (fun e' w' => e' = .returned (.int .i64 (k + (cntP (l.flatMap c208_oo) (j * 3 + 3) : Int))) ∧ Inv Try.prog St mtx 208 l.length (l.flatMap c208_oo) k (.slice (some ⟨g, 0, none⟩) l.length cap) bs w0 (j * 3 + 3) w') := d2
  refine ms_rgn (mo_move t0 (mo_move t5 (mo_ia tbOk rfl rfl rfl hj (mo_fa tbOk rfl rfl rfl (mo_fa tbOk rfl rfl rfl (mo_load tbOk rfl rfl rfl c2 (mo_move rfl (mo_call (lit_hb lit178) (args2 rfl rfl) (d2.mono ?_)))))))))
  rintro e2 w4 ⟨rfl, hI3⟩
  refine ⟨_, rfl, mo_asg rfl (mo_nil ?_)⟩
  exact ⟨rfl, t0, rfl, t5, hI3⟩
theorem m_laws_markTableS (l : List Y207) (k : Int) (h0 : 0 ≤ k) (h1 : k + cntVs (l.flatMap c208_oo) ≤ mB) : MarkAt Try.prog 83 (.own 208 l.length (l.flatMap c208_oo)) k (.own 208 l.length (mkVs mtx (l.flatMap c208_oo) k)) (k + cntVs (l.flatMap c208_oo)) :=
  mark_slice tbOk (r := 36) (ty := 31) (it := 3) (bt := 4) lit83 (by decide) rfl (flat_len zc208_oo l) (by decide) (r_laws_markTableS l k h0 h1 rfl)
def laws_markTableS (x : List Y207) (k : Int) : Option ((List Y207) × Int) := chk (0 ≤ k ∧ k + (ce31 x : Int) ≤ mB) (some (me31 x k, k + ce31 x))
theorem laws_markTableS_e {x : List Y207} {k : Int} (h0 : 0 ≤ k) (h1 : k + (ce31 x : Int) ≤ mB) : laws_markTableS x k = some (me31 x k, k + ce31 x) := chk_pos ⟨h0, h1⟩
theorem laws_markTableS_m {x : List Y207} {k : Int} {r : (List Y207) × Int} (h : laws_markTableS x k = some r) : MarkAt Try.prog 83 (oL 208 c208_oo x) k (oL 208 c208_oo r.1) r.2 := by
  obtain ⟨⟨h0, h1⟩, h⟩ := chk_some h
  have hr := Option.some.inj h
  subst hr
  have hx := cntVs_flat (f := c208_oo) (cnt := ce208) hc208 x
  have e := m_laws_markTableS x k h0 (by rw [hx]; exact h1)
  rw [mkVs_flat (f := c208_oo) (cnt := ce208) (mk := me208) hm208 hc208, hx] at e
  show MarkAt Try.prog 83 _ k (.own 208 (mkL ce208 me208 x k).length ((mkL ce208 me208 x k).flatMap c208_oo)) (k + (cntL ce208 x : Int))
  rw [mkL_length]
  exact e
def ce33 (x : List Y207) : Nat := (ce31 x)
def me33 (x : List Y207) (k : Int) : List Y207 := (me31 x (k))
theorem hm33 (x : List Y207) (k : Int) : mkVs mtx (c33_ooo x) k = c33_ooo (me33 x k) := by
  have h : mkVs mtx [oL 208 c208_oo x] k = _ := (mkc (mk_own hm208 hc208 _ _) (cnt_own hc208 _) (show mkVs mtx [] _ = [] from rfl))
  refine h.trans ?_
  simp only [c33_ooo, me33, ce33, ce31, me31, Int.add_assoc, ← Int.natCast_add, Nat.add_assoc, Int.natCast_add]
theorem hc33 (x : List Y207) : cntVs (c33_ooo x) = ce33 x := by
  have h : cntVs [oL 208 c208_oo x] = _ := (cntc (cnt_own hc208 _) (show cntVs [] = 0 from rfl))
  refine (show cntVs (c33_ooo x) = _ from h).trans ?_
  simp only [ce33, ce31, me31, Nat.add_assoc, Nat.add_zero]
theorem dp33 (x : List Y207) : deepL (c33_ooo x) = true := (dpc (dpo dp208 _) rfl)
def ce50 (x : List (List Y207)) : Nat := cntL ce33 x
def me50 (x : List (List Y207)) (k : Int) : List (List Y207) := mkL ce33 me33 x k
theorem hm50 (x : List (List Y207)) (k : Int) : mkVs mtx (c50_oooo x) k = c50_oooo (me50 x k) := by
  unfold c50_oooo me50
  exact mkc (mk_own hm33 hc33 x k) (cnt_own hc33 x) rfl
theorem hc50 (x : List (List Y207)) : cntVs (c50_oooo x) = ce50 x := by
  unfold c50_oooo ce50
  exact cntc (cnt_own hc33 x) rfl
theorem dp50 (x : List (List Y207)) : deepL (c50_oooo x) = true := dpc (dpo dp33 x) rfl
theorem r_laws_markDatabaseS (l : List (List Y207)) (k : Int) (h0 : 0 ≤ k) (h1 : k + cntVs (l.flatMap c33_ooo) ≤ mB) {body : LC} (hb : body = (.rgn [] [LL 12 (.move (.tmp 0)) 50,
      LL 13 (.move (.tmp 5)) 3,
      LL 14 (.indexAddr 50 (.tmp 12) (.tmp 13)) 0,
      LL 15 (.fieldAddr 33 (.tmp 14) 0) 0,
      LL 16 (.load 31 (.tmp 15)) 31,
      LL 17 (.move (.tmp 1)) 3,
      LL 18 (.call { callee := (.value (.func 83)), args := #[(.tmp 16), (.tmp 17)], argTypes := #[31, 3] }) 3,
      LL 1 (.assign (.tmp 18)) 3])) : Round Try.prog 20 [] mtx 33 1 body l.length (l.flatMap c33_ooo) k := by
  subst hb
  intro St w0 bs g cap j w T hnd hbs hj hI0 t0 t1 t5
  have hd : deepL (l.flatMap c33_ooo) = true := deep_flat dp33 l
  have hI0 : Inv Try.prog St mtx 33 l.length (l.flatMap c33_ooo) k (.slice (some ⟨g, 0, none⟩) l.length cap) bs w0 (j * 1 + 0) w := hI0
  have t1 : T 1 = some (.int .i64 (k + (cntP (l.flatMap c33_ooo) (j * 1 + 0) : Int))) := t1
  have q0 : (l.flatMap c33_ooo)[j * 1 + 0]? = some (oL 208 c208_oo (l[j])) := (flat_at zc33_ooo hj (by decide)).trans rfl
  have b0 := cnt_bd q0 h1
  have n0 : 0 ≤ k + (cntP (l.flatMap c33_ooo) (j * 1 + 0) : Int) := cnt_nn h0
  have k0 := m_laws_markTableS (l[j]) (k + (cntP (l.flatMap c33_ooo) (j * 1 + 0) : Int)) n0 b0
  obtain ⟨u0, c0, d0⟩ := hI0.own' hd hnd hbs q0 k0
  have d0 : Calls Try.prog 83 #[u0, .int .i64 (k + (cntP (l.flatMap c33_ooo) (j * 1 + 0) : Int))] w (fun e' w' => e' = .returned (.int .i64 (k + (cntP (l.flatMap c33_ooo) (j * 1 + 1) : Int))) ∧ Inv Try.prog St mtx 33 l.length (l.flatMap c33_ooo) k (.slice (some ⟨g, 0, none⟩) l.length cap) bs w0 (j * 1 + 1) w') := d0
  refine ms_rgn (mo_move t0 (mo_move t5 (mo_ia tbOk rfl rfl rfl hj (mo_fa tbOk rfl rfl rfl (mo_load tbOk rfl rfl rfl c0 (mo_move t1 (mo_call (lit_hb lit83) (args2 rfl rfl) (d0.mono ?_))))))))
  rintro e0 w1 ⟨rfl, hI1⟩
  refine ⟨_, rfl, mo_asg rfl (mo_nil ?_)⟩
  exact ⟨rfl, t0, rfl, t5, hI1⟩
theorem m_laws_markDatabaseS (l : List (List Y207)) (k : Int) (h0 : 0 ≤ k) (h1 : k + cntVs (l.flatMap c33_ooo) ≤ mB) : MarkAt Try.prog 93 (.own 33 l.length (l.flatMap c33_ooo)) k (.own 33 l.length (mkVs mtx (l.flatMap c33_ooo) k)) (k + cntVs (l.flatMap c33_ooo)) :=
  mark_slice tbOk (r := 19) (ty := 50) (it := 3) (bt := 4) lit93 (by decide) rfl (flat_len zc33_ooo l) (by decide) (r_laws_markDatabaseS l k h0 h1 rfl)
def laws_markDatabaseS (x : List (List Y207)) (k : Int) : Option ((List (List Y207)) × Int) := chk (0 ≤ k ∧ k + (ce50 x : Int) ≤ mB) (some (me50 x k, k + ce50 x))
theorem laws_markDatabaseS_e {x : List (List Y207)} {k : Int} (h0 : 0 ≤ k) (h1 : k + (ce50 x : Int) ≤ mB) : laws_markDatabaseS x k = some (me50 x k, k + ce50 x) := chk_pos ⟨h0, h1⟩
theorem laws_markDatabaseS_m {x : List (List Y207)} {k : Int} {r : (List (List Y207)) × Int} (h : laws_markDatabaseS x k = some r) : MarkAt Try.prog 93 (oL 33 c33_ooo x) k (oL 33 c33_ooo r.1) r.2 := by
  obtain ⟨⟨h0, h1⟩, h⟩ := chk_some h
  have hr := Option.some.inj h
  subst hr
  have hx := cntVs_flat (f := c33_ooo) (cnt := ce33) hc33 x
  have e := m_laws_markDatabaseS x k h0 (by rw [hx]; exact h1)
  rw [mkVs_flat (f := c33_ooo) (cnt := ce33) (mk := me33) hm33 hc33, hx] at e
  show MarkAt Try.prog 93 _ k (.own 33 (mkL ce33 me33 x k).length ((mkL ce33 me33 x k).flatMap c33_ooo)) (k + (cntL ce33 x : Int))
  rw [mkL_length]
  exact e
def ce52 (x : Y51) : Nat := (1) + (ce50 x.2)
def me52 (x : Y51) (k : Int) : Y51 := ((k), me50 x.2 (k + ((1 : Nat) : Int)))
theorem hm52 (x : Y51) (k : Int) : mkVs mtx (c52_oooo x) k = c52_oooo (me52 x k) := by
  have h : mkVs mtx [nI x.1, oL 33 c33_ooo x.2] k = _ := (mkc (n := 1) (c' := V.int .i64 _) rfl rfl (mkc (mk_own hm33 hc33 _ _) (cnt_own hc33 _) (show mkVs mtx [] _ = [] from rfl)))
  refine h.trans ?_
  simp only [c52_oooo, me52, ce52, ce50, me50, Int.add_assoc, ← Int.natCast_add, Nat.add_assoc, Int.natCast_add]
theorem hc52 (x : Y51) : cntVs (c52_oooo x) = ce52 x := by
  have h : cntVs [nI x.1, oL 33 c33_ooo x.2] = _ := (cntc (n := 1) rfl (cntc (cnt_own hc33 _) (show cntVs [] = 0 from rfl)))
  refine (show cntVs (c52_oooo x) = _ from h).trans ?_
  simp only [ce52, ce50, me50, Nat.add_assoc, Nat.add_zero]
theorem dp52 (x : Y51) : deepL (c52_oooo x) = true := (dpc rfl (dpc (dpo dp33 _) rfl))
def cs52 (x : Y51) : Nat := ce50 x.2
def ms52 (x : Y51) (k : Int) : Y51 := (x.1, me50 x.2 (k))
theorem hs52 (x : Y51) (k : Int) : mkA mtx (c52_oooo x) k = c52_oooo (ms52 x k) := by
  have h : mkA mtx [nI x.1, oL 33 c33_ooo x.2] k = _ := (mka (fun _ _ => rfl) (mkao hm33 hc33 _ (show mkA mtx [] _ = [] from rfl)))
  refine h.trans ?_
  simp only [c52_oooo, ms52, cs52, ce50, me50, Int.add_assoc, ← Int.natCast_add, Nat.add_assoc, Int.natCast_add]
theorem hz52 (x : Y51) : cntA (c52_oooo x) = cs52 x := by
  have h : cntA [nI x.1, oL 33 c33_ooo x.2] = _ := (cnta (fun _ => rfl) (cntao hc33 _ (show cntA [] = 0 from rfl)))
  refine (show cntA (c52_oooo x) = _ from h).trans ?_
  simp only [cs52, ce50, me50, Nat.add_assoc, Nat.add_zero, Nat.zero_add]
theorem m_laws_markHistory (x : Y51) (k : Int) (h0 : 0 ≤ k) (h1 : k + cntA (c52_oooo x) ≤ mB) : MarkAt Try.prog 31 (.agg (c52_oooo x)) k (.agg (mkA mtx (c52_oooo x) k)) (k + cntA (c52_oooo x)) := by
  refine ⟨lit_hb lit31, fun w0 St v bs hO hnd hbs => ?_⟩
  obtain ⟨us, rfl, hO⟩ := hO
  refine calls_ms (rs := []) (vs := [.agg us.toArray, .int .i64 k]) lit31 (Nat.le_of_ble_eq_true rfl) ?_
  have hd : deepL (c52_oooo x) = true := dp52 x
  have hI0 := InvA.start (mt := mtx) (k := k) (t := 52) hO hd hbs
  refine ms_seq (ms_rgn (mo_box rfl (mo_asgc (mo_nil ?_))))
  have hI1 := hI0.skip (c := nI x.1) rfl (fun _ => rfl)
  have q1 : (c52_oooo x)[1]? = some (oL 33 c33_ooo x.2) := rfl
  obtain ⟨u1, c1, d1⟩ := hI1.own hd hnd hbs q1 (m_laws_markDatabaseS x.2 (k + (cntA ((c52_oooo x).take 1) : Int)) (by omega) (cntA_bd q1 h1))
  refine ms_seq (ms_rgn (mo_fa tbOk rfl rfl rfl (mo_load tbOk rfl rfl rfl c1 (mo_move (t1_0 (k := k) (n := cntA ((c52_oooo x).take 1)) rfl) (mo_call (lit_hb lit93) (args2 rfl rfl) (d1.mono ?_))))))
  rintro e1 w1 ⟨rfl, hI2⟩
  refine ⟨_, rfl, mo_asg rfl (mo_nil ?_)⟩
  obtain ⟨hx, hy⟩ := hI2.done (Nat.le_of_ble_eq_true rfl)
  refine ms_seq (ms_rgn (mo_move rfl (mo_asg rfl (mo_nil ?_))))
  exact ms_ret ⟨.inl rfl, _, rfl, rfl, ⟨us, rfl, hx⟩, hy⟩
def laws_markHistory (x : Y51) (k : Int) : Option (Y51 × Int) := chk (0 ≤ k ∧ k + (cs52 x : Int) ≤ mB) (some (ms52 x k, k + cs52 x))
theorem laws_markHistory_e {x : Y51} {k : Int} (h0 : 0 ≤ k) (h1 : k + (cs52 x : Int) ≤ mB) : laws_markHistory x k = some (ms52 x k, k + cs52 x) := chk_pos ⟨h0, h1⟩
theorem laws_markHistory_m {x : Y51} {k : Int} {r : Y51 × Int} (h : laws_markHistory x k = some r) : MarkAt Try.prog 31 (.agg (c52_oooo x)) k (.agg (c52_oooo r.1)) r.2 := by
  obtain ⟨⟨h0, h1⟩, h⟩ := chk_some h
  have hr := Option.some.inj h
  subst hr
  have e := m_laws_markHistory x k h0 (by rw [hz52]; exact h1)
  rw [hs52, hz52] at e
  exact e
def ce195 (x : Y194) : Nat := (1) + (ce25 x.2)
def me195 (x : Y194) (k : Int) : Y194 := (mtx (k), me25 x.2 (k + ((1 : Nat) : Int)))
theorem hm195 (x : Y194) (k : Int) : mkVs mtx (c195_o x) k = c195_o (me195 x k) := by
  have h : mkVs mtx [.str x.1, oL 3 ci64 x.2] k = _ := (mkc (n := 1) (c' := V.str _) rfl rfl (mkc (mk_own hmI hcI _ _) (cnt_own hcI _) (show mkVs mtx [] _ = [] from rfl)))
  refine h.trans ?_
  simp only [c195_o, me195, ce195, ce25, me25, Int.add_assoc, ← Int.natCast_add, Nat.add_assoc, Int.natCast_add]
theorem hc195 (x : Y194) : cntVs (c195_o x) = ce195 x := by
  have h : cntVs [.str x.1, oL 3 ci64 x.2] = _ := (cntc (n := 1) rfl (cntc (cnt_own hcI _) (show cntVs [] = 0 from rfl)))
  refine (show cntVs (c195_o x) = _ from h).trans ?_
  simp only [ce195, ce25, me25, Nat.add_assoc, Nat.add_zero]
theorem dp195 (x : Y194) : deepL (c195_o x) = true := (dpc rfl (dpc (dpo (fun _ => rfl) _) rfl))
def ce90 (x : List Y194) : Nat := cntL ce195 x
def me90 (x : List Y194) (k : Int) : List Y194 := mkL ce195 me195 x k
theorem hm90 (x : List Y194) (k : Int) : mkVs mtx (c90_oo x) k = c90_oo (me90 x k) := by
  unfold c90_oo me90
  exact mkc (mk_own hm195 hc195 x k) (cnt_own hc195 x) rfl
theorem hc90 (x : List Y194) : cntVs (c90_oo x) = ce90 x := by
  unfold c90_oo ce90
  exact cntc (cnt_own hc195 x) rfl
theorem dp90 (x : List Y194) : deepL (c90_oo x) = true := dpc (dpo dp195 x) rfl
theorem r_laws_markAtomS (l : List Y194) (k : Int) (h0 : 0 ≤ k) (h1 : k + cntVs (l.flatMap c195_o) ≤ mB) {body : LC} (hb : body = (.seq (.rgn [] [LL 12 (.move (.tmp 0)) 90,
      LL 13 (.move (.tmp 5)) 3,
      LL 14 (.move (.tmp 1)) 3,
      LL 15 (.call { callee := (.value (.func 177)), args := #[(.tmp 14)], argTypes := #[3] }) 9,
      LL 16 (.indexAddr 90 (.tmp 12) (.tmp 13)) 0,
      LL 17 (.fieldAddr 195 (.tmp 16) 0) 0,
      ⟨none, (.store 9 (.tmp 17) (.tmp 15)), 0, none⟩])
    (.seq (.rgn [] [LL 18 (.move (.tmp 1)) 3,
      LL 19 (.binOp .add 3 (.tmp 18) (.const (.int .i64 1)) 3) 3,
      LL 1 (.assign (.tmp 19)) 3])
    (.rgn [] [LL 20 (.move (.tmp 0)) 90,
      LL 21 (.move (.tmp 5)) 3,
      LL 22 (.indexAddr 90 (.tmp 20) (.tmp 21)) 0,
      LL 23 (.fieldAddr 195 (.tmp 22) 1) 0,
      LL 24 (.load 25 (.tmp 23)) 25,
      LL 25 (.move (.tmp 1)) 3,
      LL 26 (.call { callee := (.value (.func 24)), args := #[(.tmp 24), (.tmp 25)], argTypes := #[25, 3] }) 3,
      LL 1 (.assign (.tmp 26)) 3])))) : Round Try.prog 28 [] mtx 195 2 body l.length (l.flatMap c195_o) k := by
  subst hb
  intro St w0 bs g cap j w T hnd hbs hj hI0 t0 t1 t5
  have hd : deepL (l.flatMap c195_o) = true := deep_flat dp195 l
  have hI0 : Inv Try.prog St mtx 195 l.length (l.flatMap c195_o) k (.slice (some ⟨g, 0, none⟩) l.length cap) bs w0 (j * 2 + 0) w := hI0
  have t1 : T 1 = some (.int .i64 (k + (cntP (l.flatMap c195_o) (j * 2 + 0) : Int))) := t1
  have q0 : (l.flatMap c195_o)[j * 2 + 0]? = some (.str ((l[j]).1)) := (flat_at zc195_o hj (by decide)).trans rfl
  have b0 := cnt_bd q0 h1
  rw [show cntV (.str ((l[j]).1)) = 1 from rfl] at b0
  have x0 : k + (cntP (l.flatMap c195_o) (j * 2 + 0) : Int) + 1 = k + (cntP (l.flatMap c195_o) (j * 2 + 1) : Int) := cnt_s1 (k := k) q0 rfl
  have n0 : 0 ≤ k + (cntP (l.flatMap c195_o) (j * 2 + 0) : Int) := cnt_nn h0
  have q1 : (l.flatMap c195_o)[j * 2 + 1]? = some (oL 3 ci64 ((l[j]).2)) := (flat_at zc195_o hj (by decide)).trans rfl
  have b1 := cnt_bd q1 h1
  have n1 : 0 ≤ k + (cntP (l.flatMap c195_o) (j * 2 + 1) : Int) := cnt_nn h0
  refine ms_seq (ms_rgn (mo_move t0 (mo_move t5 (mo_move t1 (mo_call mtx_hb (args1 rfl) ((mtx_calls n0 (by omega) w).mono ?_))))))
  rintro e0 w1 ⟨rfl, z0⟩
  have hI0 := hI0.grow hd hbs z0
  obtain ⟨u0, c0, f0, hI1⟩ := hI0.str' hd hnd q0 (mtx_len n0 (by omega))
  refine ⟨_, rfl, mo_ia tbOk rfl rfl rfl hj (mo_fa tbOk rfl rfl rfl (mo_store tbOk rfl rfl rfl rfl c0 f0 rfl (mo_nil ?_)))⟩
  generalize hw2 : World.setCell _ _ _ = w2 at hI1 ⊢
  refine ms_seq (ms_rgn (mo_move t1 (mo_add rfl (by omega) (by unfold mB at b0; omega) (mo_asg rfl (mo_nil ?_)))))
  rw [x0]
  have k1 := m_laws_markIntS ((l[j]).2) (k + (cntP (l.flatMap c195_o) (j * 2 + 1) : Int)) n1 b1
  obtain ⟨u1, c1, d1⟩ := hI1.own' hd hnd hbs q1 k1
  have d1 : Calls Try.prog 24 #[u1, .int .i64 (k + (cntP (l.flatMap c195_o) (j * 2 + 1) : Int))] w2 (fun e' w' => e' = .returned (.int .i64 (k + (cntP (l.flatMap c195_o) (j * 2 + 2) : Int))) ∧ Inv Try.prog St mtx 195 l.length (l.flatMap c195_o) k (.slice (some ⟨g, 0, none⟩) l.length cap) bs w0 (j * 2 + 2) w') := d1
  refine ms_rgn (mo_move t0 (mo_move t5 (mo_ia tbOk rfl rfl rfl hj (mo_fa tbOk rfl rfl rfl (mo_load tbOk rfl rfl rfl c1 (mo_move rfl (mo_call (lit_hb lit24) (args2 rfl rfl) (d1.mono ?_))))))))
  rintro e1 w3 ⟨rfl, hI2⟩
  refine ⟨_, rfl, mo_asg rfl (mo_nil ?_)⟩
  exact ⟨rfl, t0, rfl, t5, hI2⟩
theorem m_laws_markAtomS (l : List Y194) (k : Int) (h0 : 0 ≤ k) (h1 : k + cntVs (l.flatMap c195_o) ≤ mB) : MarkAt Try.prog 153 (.own 195 l.length (l.flatMap c195_o)) k (.own 195 l.length (mkVs mtx (l.flatMap c195_o) k)) (k + cntVs (l.flatMap c195_o)) :=
  mark_slice tbOk (r := 27) (ty := 90) (it := 3) (bt := 4) lit153 (by decide) rfl (flat_len zc195_o l) (by decide) (r_laws_markAtomS l k h0 h1 rfl)
def laws_markAtomS (x : List Y194) (k : Int) : Option ((List Y194) × Int) := chk (0 ≤ k ∧ k + (ce90 x : Int) ≤ mB) (some (me90 x k, k + ce90 x))
theorem laws_markAtomS_e {x : List Y194} {k : Int} (h0 : 0 ≤ k) (h1 : k + (ce90 x : Int) ≤ mB) : laws_markAtomS x k = some (me90 x k, k + ce90 x) := chk_pos ⟨h0, h1⟩
theorem laws_markAtomS_m {x : List Y194} {k : Int} {r : (List Y194) × Int} (h : laws_markAtomS x k = some r) : MarkAt Try.prog 153 (oL 195 c195_o x) k (oL 195 c195_o r.1) r.2 := by
  obtain ⟨⟨h0, h1⟩, h⟩ := chk_some h
  have hr := Option.some.inj h
  subst hr
  have hx := cntVs_flat (f := c195_o) (cnt := ce195) hc195 x
  have e := m_laws_markAtomS x k h0 (by rw [hx]; exact h1)
  rw [mkVs_flat (f := c195_o) (cnt := ce195) (mk := me195) hm195 hc195, hx] at e
  show MarkAt Try.prog 153 _ k (.own 195 (mkL ce195 me195 x k).length ((mkL ce195 me195 x k).flatMap c195_o)) (k + (cntL ce195 x : Int))
  rw [mkL_length]
  exact e
def ce92 (x : Y91) : Nat := (1) + (ce90 x.2.1) + (ce25 x.2.2)
def me92 (x : Y91) (k : Int) : Y91 := ((k), me90 x.2.1 (k + ((1 : Nat) : Int)), me25 x.2.2 (k + ((1 : Nat) : Int) + ((ce90 x.2.1 : Nat) : Int)))
theorem hm92 (x : Y91) (k : Int) : mkVs mtx (c92_ooo x) k = c92_ooo (me92 x k) := by
  have h : mkVs mtx [nI x.1, oL 195 c195_o x.2.1, oL 3 ci64 x.2.2] k = _ := (mkc (n := 1) (c' := V.int .i64 _) rfl rfl (mkc (mk_own hm195 hc195 _ _) (cnt_own hc195 _) (mkc (mk_own hmI hcI _ _) (cnt_own hcI _) (show mkVs mtx [] _ = [] from rfl))))
  refine h.trans ?_
  simp only [c92_ooo, me92, ce92, ce25, ce90, me25, me90, Int.add_assoc, ← Int.natCast_add, Nat.add_assoc, Int.natCast_add]
theorem hc92 (x : Y91) : cntVs (c92_ooo x) = ce92 x := by
  have h : cntVs [nI x.1, oL 195 c195_o x.2.1, oL 3 ci64 x.2.2] = _ := (cntc (n := 1) rfl (cntc (cnt_own hc195 _) (cntc (cnt_own hcI _) (show cntVs [] = 0 from rfl))))
  refine (show cntVs (c92_ooo x) = _ from h).trans ?_
  simp only [ce92, ce25, ce90, me25, me90, Nat.add_assoc, Nat.add_zero]
theorem dp92 (x : Y91) : deepL (c92_ooo x) = true := (dpc rfl (dpc (dpo dp195 _) (dpc (dpo (fun _ => rfl) _) rfl)))
def cs92 (x : Y91) : Nat := ce90 x.2.1 + ce25 x.2.2
def ms92 (x : Y91) (k : Int) : Y91 := (x.1, me90 x.2.1 (k), me25 x.2.2 (k + ((ce90 x.2.1 : Nat) : Int)))
theorem hs92 (x : Y91) (k : Int) : mkA mtx (c92_ooo x) k = c92_ooo (ms92 x k) := by
  have h : mkA mtx [nI x.1, oL 195 c195_o x.2.1, oL 3 ci64 x.2.2] k = _ := (mka (fun _ _ => rfl) (mkao hm195 hc195 _ (mkao hmI hcI _ (show mkA mtx [] _ = [] from rfl))))
  refine h.trans ?_
  simp only [c92_ooo, ms92, cs92, ce25, ce90, me25, me90, Int.add_assoc, ← Int.natCast_add, Nat.add_assoc, Int.natCast_add]
theorem hz92 (x : Y91) : cntA (c92_ooo x) = cs92 x := by
  have h : cntA [nI x.1, oL 195 c195_o x.2.1, oL 3 ci64 x.2.2] = _ := (cnta (fun _ => rfl) (cntao hc195 _ (cntao hcI _ (show cntA [] = 0 from rfl))))
  refine (show cntA (c92_ooo x) = _ from h).trans ?_
  simp only [cs92, ce25, ce90, me25, me90, Nat.add_assoc, Nat.add_zero, Nat.zero_add]
theorem m_laws_markQuery (x : Y91) (k : Int) (h0 : 0 ≤ k) (h1 : k + cntA (c92_ooo x) ≤ mB) : MarkAt Try.prog 61 (.agg (c92_ooo x)) k (.agg (mkA mtx (c92_ooo x) k)) (k + cntA (c92_ooo x)) := by
  refine ⟨lit_hb lit61, fun w0 St v bs hO hnd hbs => ?_⟩
  obtain ⟨us, rfl, hO⟩ := hO
  refine calls_ms (rs := []) (vs := [.agg us.toArray, .int .i64 k]) lit61 (Nat.le_of_ble_eq_true rfl) ?_
  have hd : deepL (c92_ooo x) = true := dp92 x
  have hI0 := InvA.start (mt := mtx) (k := k) (t := 92) hO hd hbs
  refine ms_seq (ms_rgn (mo_box rfl (mo_asgc (mo_nil ?_))))
  have hI1 := hI0.skip (c := nI x.1) rfl (fun _ => rfl)
  have q1 : (c92_ooo x)[1]? = some (oL 195 c195_o x.2.1) := rfl
  obtain ⟨u1, c1, d1⟩ := hI1.own hd hnd hbs q1 (m_laws_markAtomS x.2.1 (k + (cntA ((c92_ooo x).take 1) : Int)) (by omega) (cntA_bd q1 h1))
  refine ms_seq (ms_rgn (mo_fa tbOk rfl rfl rfl (mo_load tbOk rfl rfl rfl c1 (mo_move (t1_0 (k := k) (n := cntA ((c92_ooo x).take 1)) rfl) (mo_call (lit_hb lit153) (args2 rfl rfl) (d1.mono ?_))))))
  rintro e1 w1 ⟨rfl, hI2⟩
  refine ⟨_, rfl, mo_asg rfl (mo_nil ?_)⟩
  have q2 : (c92_ooo x)[2]? = some (oL 3 ci64 x.2.2) := rfl
  obtain ⟨u2, c2, d2⟩ := hI2.own hd hnd hbs q2 (m_laws_markIntS x.2.2 (k + (cntA ((c92_ooo x).take 2) : Int)) (by omega) (cntA_bd q2 h1))
  refine ms_seq (ms_rgn (mo_fa tbOk rfl rfl rfl (mo_load tbOk rfl rfl rfl c2 (mo_move rfl (mo_call (lit_hb lit24) (args2 rfl rfl) (d2.mono ?_))))))
  rintro e2 w2 ⟨rfl, hI3⟩
  refine ⟨_, rfl, mo_asg rfl (mo_nil ?_)⟩
  obtain ⟨hx, hy⟩ := hI3.done (Nat.le_of_ble_eq_true rfl)
  refine ms_seq (ms_rgn (mo_move rfl (mo_asg rfl (mo_nil ?_))))
  exact ms_ret ⟨.inl rfl, _, rfl, rfl, ⟨us, rfl, hx⟩, hy⟩
def laws_markQuery (x : Y91) (k : Int) : Option (Y91 × Int) := chk (0 ≤ k ∧ k + (cs92 x : Int) ≤ mB) (some (ms92 x k, k + cs92 x))
theorem laws_markQuery_e {x : Y91} {k : Int} (h0 : 0 ≤ k) (h1 : k + (cs92 x : Int) ≤ mB) : laws_markQuery x k = some (ms92 x k, k + cs92 x) := chk_pos ⟨h0, h1⟩
theorem laws_markQuery_m {x : Y91} {k : Int} {r : Y91 × Int} (h : laws_markQuery x k = some r) : MarkAt Try.prog 61 (.agg (c92_ooo x)) k (.agg (c92_ooo r.1)) r.2 := by
  obtain ⟨⟨h0, h1⟩, h⟩ := chk_some h
  have hr := Option.some.inj h
  subst hr
  have e := m_laws_markQuery x k h0 (by rw [hz92]; exact h1)
  rw [hs92, hz92] at e
  exact e
def ce108 (x : Y107) : Nat := (1) + (ce25 x.2.1) + (ce25 x.2.2.1) + (ce92 x.2.2.2)
def me108 (x : Y107) (k : Int) : Y107 := ((k), me25 x.2.1 (k + ((1 : Nat) : Int)), me25 x.2.2.1 (k + ((1 : Nat) : Int) + ((ce25 x.2.1 : Nat) : Int)), me92 x.2.2.2 (k + ((1 : Nat) : Int) + ((ce25 x.2.1 : Nat) : Int) + ((ce25 x.2.2.1 : Nat) : Int)))
theorem hm108 (x : Y107) (k : Int) : mkVs mtx (c108_ooooo x) k = c108_ooooo (me108 x k) := by
  have h : mkVs mtx [nI x.1, oL 3 ci64 x.2.1, oL 3 ci64 x.2.2.1, nI x.2.2.2.1, oL 195 c195_o x.2.2.2.2.1, oL 3 ci64 x.2.2.2.2.2] k = _ := (mkc (n := 1) (c' := V.int .i64 _) rfl rfl (mkc (mk_own hmI hcI _ _) (cnt_own hcI _) (mkc (mk_own hmI hcI _ _) (cnt_own hcI _) (mkc (n := 1) (c' := V.int .i64 _) rfl rfl (mkc (mk_own hm195 hc195 _ _) (cnt_own hc195 _) (mkc (mk_own hmI hcI _ _) (cnt_own hcI _) (show mkVs mtx [] _ = [] from rfl)))))))
  refine h.trans ?_
  simp only [c108_ooooo, me108, ce108, c92_ooo, ce25, ce90, ce92, me25, me90, me92, Int.add_assoc, ← Int.natCast_add, Nat.add_assoc, Int.natCast_add]
theorem hc108 (x : Y107) : cntVs (c108_ooooo x) = ce108 x := by
  have h : cntVs [nI x.1, oL 3 ci64 x.2.1, oL 3 ci64 x.2.2.1, nI x.2.2.2.1, oL 195 c195_o x.2.2.2.2.1, oL 3 ci64 x.2.2.2.2.2] = _ := (cntc (n := 1) rfl (cntc (cnt_own hcI _) (cntc (cnt_own hcI _) (cntc (n := 1) rfl (cntc (cnt_own hc195 _) (cntc (cnt_own hcI _) (show cntVs [] = 0 from rfl)))))))
  refine (show cntVs (c108_ooooo x) = _ from h).trans ?_
  simp only [ce108, c92_ooo, ce25, ce90, ce92, me25, me90, me92, Nat.add_assoc, Nat.add_zero]
theorem dp108 (x : Y107) : deepL (c108_ooooo x) = true := (dpc rfl (dpc (dpo (fun _ => rfl) _) (dpc (dpo (fun _ => rfl) _) (dpc rfl (dpc (dpo dp195 _) (dpc (dpo (fun _ => rfl) _) rfl))))))
def cs108 (x : Y107) : Nat := ce25 x.2.1 + ce25 x.2.2.1 + cs92 x.2.2.2
def ms108 (x : Y107) (k : Int) : Y107 := (x.1, me25 x.2.1 (k), me25 x.2.2.1 (k + ((ce25 x.2.1 : Nat) : Int)), ms92 x.2.2.2 (k + ((ce25 x.2.1 : Nat) : Int) + ((ce25 x.2.2.1 : Nat) : Int)))
theorem hs108 (x : Y107) (k : Int) : mkA mtx (c108_ooooo x) k = c108_ooooo (ms108 x k) := by
  have h : mkA mtx [nI x.1, oL 3 ci64 x.2.1, oL 3 ci64 x.2.2.1, nI x.2.2.2.1, oL 195 c195_o x.2.2.2.2.1, oL 3 ci64 x.2.2.2.2.2] k = _ := (mka (fun _ _ => rfl) (mkao hmI hcI _ (mkao hmI hcI _ (mka (fun _ _ => rfl) (mkao hm195 hc195 _ (mkao hmI hcI _ (show mkA mtx [] _ = [] from rfl)))))))
  refine h.trans ?_
  simp only [c108_ooooo, ms108, cs108, c92_ooo, ce25, ce90, cs92, me25, me90, ms92, Int.add_assoc, ← Int.natCast_add, Nat.add_assoc, Int.natCast_add]
theorem hz108 (x : Y107) : cntA (c108_ooooo x) = cs108 x := by
  have h : cntA [nI x.1, oL 3 ci64 x.2.1, oL 3 ci64 x.2.2.1, nI x.2.2.2.1, oL 195 c195_o x.2.2.2.2.1, oL 3 ci64 x.2.2.2.2.2] = _ := (cnta (fun _ => rfl) (cntao hcI _ (cntao hcI _ (cnta (fun _ => rfl) (cntao hc195 _ (cntao hcI _ (show cntA [] = 0 from rfl)))))))
  refine (show cntA (c108_ooooo x) = _ from h).trans ?_
  simp only [cs108, c92_ooo, ce25, ce90, cs92, me25, me90, ms92, Nat.add_assoc, Nat.add_zero, Nat.zero_add]
theorem m_laws_markCursor (x : Y107) (k : Int) (h0 : 0 ≤ k) (h1 : k + cntA (c108_ooooo x) ≤ mB) : MarkAt Try.prog 62 (.agg (c108_ooooo x)) k (.agg (mkA mtx (c108_ooooo x) k)) (k + cntA (c108_ooooo x)) := by
  refine ⟨lit_hb lit62, fun w0 St v bs hO hnd hbs => ?_⟩
  obtain ⟨us, rfl, hO⟩ := hO
  refine calls_ms (rs := []) (vs := [.agg us.toArray, .int .i64 k]) lit62 (Nat.le_of_ble_eq_true rfl) ?_
  have hd : deepL (c108_ooooo x) = true := dp108 x
  have hI0 := InvA.start (mt := mtx) (k := k) (t := 108) hO hd hbs
  refine ms_seq (ms_rgn (mo_box rfl (mo_asgc (mo_nil ?_))))
  have hI1 := hI0.skip (c := nI x.1) rfl (fun _ => rfl)
  have q1 : (c108_ooooo x)[1]? = some (oL 3 ci64 x.2.1) := rfl
  obtain ⟨u1, c1, d1⟩ := hI1.own hd hnd hbs q1 (m_laws_markIntS x.2.1 (k + (cntA ((c108_ooooo x).take 1) : Int)) (by omega) (cntA_bd q1 h1))
  refine ms_seq (ms_rgn (mo_fa tbOk rfl rfl rfl (mo_load tbOk rfl rfl rfl c1 (mo_move (t1_0 (k := k) (n := cntA ((c108_ooooo x).take 1)) rfl) (mo_call (lit_hb lit24) (args2 rfl rfl) (d1.mono ?_))))))
  rintro e1 w1 ⟨rfl, hI2⟩
  refine ⟨_, rfl, mo_asg rfl (mo_nil ?_)⟩
  have q2 : (c108_ooooo x)[2]? = some (oL 3 ci64 x.2.2.1) := rfl
  obtain ⟨u2, c2, d2⟩ := hI2.own hd hnd hbs q2 (m_laws_markIntS x.2.2.1 (k + (cntA ((c108_ooooo x).take 2) : Int)) (by omega) (cntA_bd q2 h1))
  refine ms_seq (ms_rgn (mo_fa tbOk rfl rfl rfl (mo_load tbOk rfl rfl rfl c2 (mo_move rfl (mo_call (lit_hb lit24) (args2 rfl rfl) (d2.mono ?_))))))
  rintro e2 w2 ⟨rfl, hI3⟩
  refine ⟨_, rfl, mo_asg rfl (mo_nil ?_)⟩
  have q3 : ((c108_ooooo x).drop 3).take 3 = c92_ooo x.2.2.2 := rfl
  obtain ⟨u3, l3, c3, d3⟩ := hI3.agg hd hnd hbs (Nat.le_of_ble_eq_true rfl) q3 (m_laws_markQuery x.2.2.2 (k + (cntA ((c108_ooooo x).take 3) : Int)) (by omega) (cntA_bdp q3 h1))
  refine ms_seq (ms_rgn (mo_fa tbOk rfl rfl rfl (mo_loadA tbOk rfl l3 rfl c3 (mo_move rfl (mo_call (lit_hb lit61) (args2 rfl rfl) (d3.mono ?_))))))
  rintro e3 w3 ⟨rfl, hI6⟩
  refine ⟨_, rfl, mo_asg rfl (mo_nil ?_)⟩
  obtain ⟨hx, hy⟩ := hI6.done (Nat.le_of_ble_eq_true rfl)
  refine ms_seq (ms_rgn (mo_move rfl (mo_asg rfl (mo_nil ?_))))
  exact ms_ret ⟨.inl rfl, _, rfl, rfl, ⟨us, rfl, hx⟩, hy⟩
def laws_markCursor (x : Y107) (k : Int) : Option (Y107 × Int) := chk (0 ≤ k ∧ k + (cs108 x : Int) ≤ mB) (some (ms108 x k, k + cs108 x))
theorem laws_markCursor_e {x : Y107} {k : Int} (h0 : 0 ≤ k) (h1 : k + (cs108 x : Int) ≤ mB) : laws_markCursor x k = some (ms108 x k, k + cs108 x) := chk_pos ⟨h0, h1⟩
theorem laws_markCursor_m {x : Y107} {k : Int} {r : Y107 × Int} (h : laws_markCursor x k = some r) : MarkAt Try.prog 62 (.agg (c108_ooooo x)) k (.agg (c108_ooooo r.1)) r.2 := by
  obtain ⟨⟨h0, h1⟩, h⟩ := chk_some h
  have hr := Option.some.inj h
  subst hr
  have e := m_laws_markCursor x k h0 (by rw [hz108]; exact h1)
  rw [hs108, hz108] at e
  exact e
end Go.Proofs.Ytkcfahfladikkaa
