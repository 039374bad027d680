/-
  What the functions that mark do: contracts and typed functions, printed by genmark.py. No conditions.
-/
import Derived.Test.YtkcfahfladikkaaMxN1
namespace Go.Proofs.Ytkcfahfladikkaa
open Go.RowKit
set_option linter.unusedVariables false
set_option linter.unusedSimpArgs false
set_option maxRecDepth 100000
def c25_d (x : List Int) : List V := [.dat x.length (x.flatMap ci64)]
theorem zc25_d (x : List Int) : (c25_d x).length = 1 := rfl
theorem ec25_d (x : List Int) : erL (c25_d x) = c25_d x := (erc (erD eci64 _) rfl)
def c25_o (x : List Int) : List V := [.own 3 x.length (x.flatMap ci64)]
theorem zc25_o (x : List Int) : (c25_o x).length = 1 := rfl
theorem ec25_o (x : List Int) : erL (c25_o x) = c25_d x := (erc (erO eci64 _) rfl)
def c82_dd (x : List (List Int)) : List V := [.dat x.length (x.flatMap c25_d)]
theorem zc82_dd (x : List (List Int)) : (c82_dd x).length = 1 := rfl
theorem ec82_dd (x : List (List Int)) : erL (c82_dd x) = c82_dd x := (erc (erD ec25_d _) rfl)
def c82_oo (x : List (List Int)) : List V := [.own 25 x.length (x.flatMap c25_o)]
theorem zc82_oo (x : List (List Int)) : (c82_oo x).length = 1 := rfl
theorem ec82_oo (x : List (List Int)) : erL (c82_oo x) = c82_dd x := (erc (erO ec25_o _) rfl)
def c128_dd (x : Int × (List (List Int))) : List V := [.int .i64 x.1, .dat x.2.length (x.2.flatMap c25_d)]
theorem zc128_dd (x : Int × (List (List Int))) : (c128_dd x).length = 2 := rfl
theorem ec128_dd (x : Int × (List (List Int))) : erL (c128_dd x) = c128_dd x := (erc rfl (erc (erD ec25_d _) rfl))
def c128_oo (x : Int × (List (List Int))) : List V := [.int .i64 x.1, .own 25 x.2.length (x.2.flatMap c25_o)]
theorem zc128_oo (x : Int × (List (List Int))) : (c128_oo x).length = 2 := rfl
theorem ec128_oo (x : Int × (List (List Int))) : erL (c128_oo x) = c128_dd x := (erc rfl (erc (erO ec25_o _) rfl))
def c208_dd (x : (List UInt8) × (Int × (List (List Int)))) : List V := [.str x.1, .int .i64 x.2.1, .dat x.2.2.length (x.2.2.flatMap c25_d)]
theorem zc208_dd (x : (List UInt8) × (Int × (List (List Int)))) : (c208_dd x).length = 3 := rfl
theorem ec208_dd (x : (List UInt8) × (Int × (List (List Int)))) : erL (c208_dd x) = c208_dd x := (erc rfl (erc rfl (erc (erD ec25_d _) rfl)))
def c208_oo (x : (List UInt8) × (Int × (List (List Int)))) : List V := [.str x.1, .int .i64 x.2.1, .own 25 x.2.2.length (x.2.2.flatMap c25_o)]
theorem zc208_oo (x : (List UInt8) × (Int × (List (List Int)))) : (c208_oo x).length = 3 := rfl
theorem ec208_oo (x : (List UInt8) × (Int × (List (List Int)))) : erL (c208_oo x) = c208_dd x := (erc rfl (erc rfl (erc (erO ec25_o _) rfl)))
def c31_ddd (x : List ((List UInt8) × (Int × (List (List Int))))) : List V := [.dat x.length (x.flatMap c208_dd)]
theorem zc31_ddd (x : List ((List UInt8) × (Int × (List (List Int))))) : (c31_ddd x).length = 1 := rfl
theorem ec31_ddd (x : List ((List UInt8) × (Int × (List (List Int))))) : erL (c31_ddd x) = c31_ddd x := (erc (erD ec208_dd _) rfl)
def c31_ooo (x : List ((List UInt8) × (Int × (List (List Int))))) : List V := [.own 208 x.length (x.flatMap c208_oo)]
theorem zc31_ooo (x : List ((List UInt8) × (Int × (List (List Int))))) : (c31_ooo x).length = 1 := rfl
theorem ec31_ooo (x : List ((List UInt8) × (Int × (List (List Int))))) : erL (c31_ooo x) = c31_ddd x := (erc (erO ec208_oo _) rfl)
def c33_ddd (x : (List ((List UInt8) × (Int × (List (List Int)))))) : List V := [.dat x.length (x.flatMap c208_dd)]
theorem zc33_ddd (x : (List ((List UInt8) × (Int × (List (List Int)))))) : (c33_ddd x).length = 1 := rfl
theorem ec33_ddd (x : (List ((List UInt8) × (Int × (List (List Int)))))) : erL (c33_ddd x) = c33_ddd x := (erc (erD ec208_dd _) rfl)
def c33_ooo (x : (List ((List UInt8) × (Int × (List (List Int)))))) : List V := [.own 208 x.length (x.flatMap c208_oo)]
theorem zc33_ooo (x : (List ((List UInt8) × (Int × (List (List Int)))))) : (c33_ooo x).length = 1 := rfl
theorem ec33_ooo (x : (List ((List UInt8) × (Int × (List (List Int)))))) : erL (c33_ooo x) = c33_ddd x := (erc (erO ec208_oo _) rfl)
def c195_d (x : (List UInt8) × (List Int)) : List V := [.str x.1, .dat x.2.length (x.2.flatMap ci64)]
theorem zc195_d (x : (List UInt8) × (List Int)) : (c195_d x).length = 2 := rfl
theorem ec195_d (x : (List UInt8) × (List Int)) : erL (c195_d x) = c195_d x := (erc rfl (erc (erD eci64 _) rfl))
def c195_o (x : (List UInt8) × (List Int)) : List V := [.str x.1, .own 3 x.2.length (x.2.flatMap ci64)]
theorem zc195_o (x : (List UInt8) × (List Int)) : (c195_o x).length = 2 := rfl
theorem ec195_o (x : (List UInt8) × (List Int)) : erL (c195_o x) = c195_d x := (erc rfl (erc (erO eci64 _) rfl))
def c90_dd (x : List ((List UInt8) × (List Int))) : List V := [.dat x.length (x.flatMap c195_d)]
theorem zc90_dd (x : List ((List UInt8) × (List Int))) : (c90_dd x).length = 1 := rfl
theorem ec90_dd (x : List ((List UInt8) × (List Int))) : erL (c90_dd x) = c90_dd x := (erc (erD ec195_d _) rfl)
def c90_oo (x : List ((List UInt8) × (List Int))) : List V := [.own 195 x.length (x.flatMap c195_o)]
theorem zc90_oo (x : List ((List UInt8) × (List Int))) : (c90_oo x).length = 1 := rfl
theorem ec90_oo (x : List ((List UInt8) × (List Int))) : erL (c90_oo x) = c90_dd x := (erc (erO ec195_o _) rfl)
def c92_ddd (x : Int × (List ((List UInt8) × (List Int))) × (List Int)) : List V := [.int .i64 x.1, .dat x.2.1.length (x.2.1.flatMap c195_d), .dat x.2.2.length (x.2.2.flatMap ci64)]
theorem zc92_ddd (x : Int × (List ((List UInt8) × (List Int))) × (List Int)) : (c92_ddd x).length = 3 := rfl
theorem ec92_ddd (x : Int × (List ((List UInt8) × (List Int))) × (List Int)) : erL (c92_ddd x) = c92_ddd x := (erc rfl (erc (erD ec195_d _) (erc (erD eci64 _) rfl)))
def c92_ooo (x : Int × (List ((List UInt8) × (List Int))) × (List Int)) : List V := [.int .i64 x.1, .own 195 x.2.1.length (x.2.1.flatMap c195_o), .own 3 x.2.2.length (x.2.2.flatMap ci64)]
theorem zc92_ooo (x : Int × (List ((List UInt8) × (List Int))) × (List Int)) : (c92_ooo x).length = 3 := rfl
theorem ec92_ooo (x : Int × (List ((List UInt8) × (List Int))) × (List Int)) : erL (c92_ooo x) = c92_ddd x := (erc rfl (erc (erO ec195_o _) (erc (erO eci64 _) rfl)))
def c159_ddd (x : Int × (List (List Int)) × (List Int)) : List V := [.int .i64 x.1, .dat x.2.1.length (x.2.1.flatMap c25_d), .dat x.2.2.length (x.2.2.flatMap ci64)]
theorem zc159_ddd (x : Int × (List (List Int)) × (List Int)) : (c159_ddd x).length = 3 := rfl
theorem ec159_ddd (x : Int × (List (List Int)) × (List Int)) : erL (c159_ddd x) = c159_ddd x := (erc rfl (erc (erD ec25_d _) (erc (erD eci64 _) rfl)))
def c159_ooo (x : Int × (List (List Int)) × (List Int)) : List V := [.int .i64 x.1, .own 25 x.2.1.length (x.2.1.flatMap c25_o), .own 3 x.2.2.length (x.2.2.flatMap ci64)]
theorem zc159_ooo (x : Int × (List (List Int)) × (List Int)) : (c159_ooo x).length = 3 := rfl
theorem ec159_ooo (x : Int × (List (List Int)) × (List Int)) : erL (c159_ooo x) = c159_ddd x := (erc rfl (erc (erO ec25_o _) (erc (erO eci64 _) rfl)))
def c161_dddddd (x : (Int × (List ((List UInt8) × (List Int))) × (List Int)) × (Int × (List (List Int)) × (List Int))) : List V := [.int .i64 x.1.1, .dat x.1.2.1.length (x.1.2.1.flatMap c195_d), .dat x.1.2.2.length (x.1.2.2.flatMap ci64), .int .i64 x.2.1, .dat x.2.2.1.length (x.2.2.1.flatMap c25_d), .dat x.2.2.2.length (x.2.2.2.flatMap ci64)]
theorem zc161_dddddd (x : (Int × (List ((List UInt8) × (List Int))) × (List Int)) × (Int × (List (List Int)) × (List Int))) : (c161_dddddd x).length = 6 := rfl
theorem ec161_dddddd (x : (Int × (List ((List UInt8) × (List Int))) × (List Int)) × (Int × (List (List Int)) × (List Int))) : erL (c161_dddddd x) = c161_dddddd x := (erc rfl (erc (erD ec195_d _) (erc (erD eci64 _) (erc rfl (erc (erD ec25_d _) (erc (erD eci64 _) rfl))))))
def c161_oooooo (x : (Int × (List ((List UInt8) × (List Int))) × (List Int)) × (Int × (List (List Int)) × (List Int))) : List V := [.int .i64 x.1.1, .own 195 x.1.2.1.length (x.1.2.1.flatMap c195_o), .own 3 x.1.2.2.length (x.1.2.2.flatMap ci64), .int .i64 x.2.1, .own 25 x.2.2.1.length (x.2.2.1.flatMap c25_o), .own 3 x.2.2.2.length (x.2.2.2.flatMap ci64)]
theorem zc161_oooooo (x : (Int × (List ((List UInt8) × (List Int))) × (List Int)) × (Int × (List (List Int)) × (List Int))) : (c161_oooooo x).length = 6 := rfl
theorem ec161_oooooo (x : (Int × (List ((List UInt8) × (List Int))) × (List Int)) × (Int × (List (List Int)) × (List Int))) : erL (c161_oooooo x) = c161_dddddd x := (erc rfl (erc (erO ec195_o _) (erc (erO eci64 _) (erc rfl (erc (erO ec25_o _) (erc (erO eci64 _) rfl))))))
def c71_ddddddd (x : List ((Int × (List ((List UInt8) × (List Int))) × (List Int)) × (Int × (List (List Int)) × (List Int)))) : List V := [.dat x.length (x.flatMap c161_dddddd)]
theorem zc71_ddddddd (x : List ((Int × (List ((List UInt8) × (List Int))) × (List Int)) × (Int × (List (List Int)) × (List Int)))) : (c71_ddddddd x).length = 1 := rfl
theorem ec71_ddddddd (x : List ((Int × (List ((List UInt8) × (List Int))) × (List Int)) × (Int × (List (List Int)) × (List Int)))) : erL (c71_ddddddd x) = c71_ddddddd x := (erc (erD ec161_dddddd _) rfl)
def c71_ooooooo (x : List ((Int × (List ((List UInt8) × (List Int))) × (List Int)) × (Int × (List (List Int)) × (List Int)))) : List V := [.own 161 x.length (x.flatMap c161_oooooo)]
theorem zc71_ooooooo (x : List ((Int × (List ((List UInt8) × (List Int))) × (List Int)) × (Int × (List (List Int)) × (List Int)))) : (c71_ooooooo x).length = 1 := rfl
theorem ec71_ooooooo (x : List ((Int × (List ((List UInt8) × (List Int))) × (List Int)) × (Int × (List (List Int)) × (List Int)))) : erL (c71_ooooooo x) = c71_ddddddd x := (erc (erO ec161_oooooo _) rfl)
def c72_dddd (x : List (Int × (List (List Int)) × (List Int))) : List V := [.dat x.length (x.flatMap c159_ddd)]
theorem zc72_dddd (x : List (Int × (List (List Int)) × (List Int))) : (c72_dddd x).length = 1 := rfl
theorem ec72_dddd (x : List (Int × (List (List Int)) × (List Int))) : erL (c72_dddd x) = c72_dddd x := (erc (erD ec159_ddd _) rfl)
def c72_oooo (x : List (Int × (List (List Int)) × (List Int))) : List V := [.own 159 x.length (x.flatMap c159_ooo)]
theorem zc72_oooo (x : List (Int × (List (List Int)) × (List Int))) : (c72_oooo x).length = 1 := rfl
theorem ec72_oooo (x : List (Int × (List (List Int)) × (List Int))) : erL (c72_oooo x) = c72_dddd x := (erc (erO ec159_ooo _) rfl)
def c74_dddddddddddddd (x : ((List ((List UInt8) × (Int × (List (List Int)))))) × (List ((Int × (List ((List UInt8) × (List Int))) × (List Int)) × (Int × (List (List Int)) × (List Int)))) × (List (Int × (List (List Int)) × (List Int)))) : List V := [.dat x.1.length (x.1.flatMap c208_dd), .dat x.2.1.length (x.2.1.flatMap c161_dddddd), .dat x.2.2.length (x.2.2.flatMap c159_ddd)]
theorem zc74_dddddddddddddd (x : ((List ((List UInt8) × (Int × (List (List Int)))))) × (List ((Int × (List ((List UInt8) × (List Int))) × (List Int)) × (Int × (List (List Int)) × (List Int)))) × (List (Int × (List (List Int)) × (List Int)))) : (c74_dddddddddddddd x).length = 3 := rfl
theorem ec74_dddddddddddddd (x : ((List ((List UInt8) × (Int × (List (List Int)))))) × (List ((Int × (List ((List UInt8) × (List Int))) × (List Int)) × (Int × (List (List Int)) × (List Int)))) × (List (Int × (List (List Int)) × (List Int)))) : erL (c74_dddddddddddddd x) = c74_dddddddddddddd x := (erc (erD ec208_dd _) (erc (erD ec161_dddddd _) (erc (erD ec159_ddd _) rfl)))
def c74_oooooooooooooo (x : ((List ((List UInt8) × (Int × (List (List Int)))))) × (List ((Int × (List ((List UInt8) × (List Int))) × (List Int)) × (Int × (List (List Int)) × (List Int)))) × (List (Int × (List (List Int)) × (List Int)))) : List V := [.own 208 x.1.length (x.1.flatMap c208_oo), .own 161 x.2.1.length (x.2.1.flatMap c161_oooooo), .own 159 x.2.2.length (x.2.2.flatMap c159_ooo)]
theorem zc74_oooooooooooooo (x : ((List ((List UInt8) × (Int × (List (List Int)))))) × (List ((Int × (List ((List UInt8) × (List Int))) × (List Int)) × (Int × (List (List Int)) × (List Int)))) × (List (Int × (List (List Int)) × (List Int)))) : (c74_oooooooooooooo x).length = 3 := rfl
theorem ec74_oooooooooooooo (x : ((List ((List UInt8) × (Int × (List (List Int)))))) × (List ((Int × (List ((List UInt8) × (List Int))) × (List Int)) × (Int × (List (List Int)) × (List Int)))) × (List (Int × (List (List Int)) × (List Int)))) : erL (c74_oooooooooooooo x) = c74_dddddddddddddd x := (erc (erO ec208_oo _) (erc (erO ec161_oooooo _) (erc (erO ec159_ooo _) rfl)))
def ce25 (x : List Int) : Nat := cntL oneI x
def me25 (x : List Int) (k : Int) : List Int := mkL oneI markI x k
theorem hm25 (x : List Int) (k : Int) : mkVs mtx (c25_o x) k = c25_o (me25 x k) := by
  unfold c25_o me25
  exact mkc (mk_own hmI hcI x k) (cnt_own hcI x) rfl
theorem hc25 (x : List Int) : cntVs (c25_o x) = ce25 x := by
  unfold c25_o ce25
  exact cntc (cnt_own hcI x) rfl
theorem dp25 (x : List Int) : deepL (c25_o x) = true := dpc (dpo (fun _ => rfl) x) rfl
theorem r_laws_markIntS (l : List Int) (k : Int) (h0 : 0 ≤ k) (h1 : k + cntVs (l.flatMap ci64) ≤ mB) {body : LC} (hb : body = (.seq (.rgn [] [⟨some 12, (.move (.tmp 0)), 25, none⟩,
      ⟨some 13, (.move (.tmp 5)), 3, none⟩,
      ⟨some 14, (.move (.tmp 1)), 3, none⟩,
      ⟨some 15, (.indexAddr 25 (.tmp 12) (.tmp 13)), 0, none⟩,
      ⟨none, (.store 3 (.tmp 15) (.tmp 14)), 0, none⟩])
    (.rgn [] [⟨some 16, (.move (.tmp 1)), 3, none⟩,
      ⟨some 17, (.binOp .add 3 (.tmp 16) (.const (.int .i64 1)) 3), 3, none⟩,
      ⟨some 1, (.assign (.tmp 17)), 3, none⟩]))) : Round Try.prog 19 [] mtx 3 1 body l.length (l.flatMap ci64) k := by
  subst hb
  intro St w0 bs g cap j w T hnd hbs hj hI0 t0 t1 t5
  have hd : deepL (l.flatMap ci64) = true := deep_flat (fun _ => rfl) l
  have hI0 : Inv Try.prog St mtx 3 l.length (l.flatMap ci64) k (.slice (some ⟨g, 0, none⟩) l.length cap) bs w0 (j * 1 + 0) w := hI0
  have t1 : T 1 = some (.int .i64 (k + (cntP (l.flatMap ci64) (j * 1 + 0) : Int))) := t1
  have q0 : (l.flatMap ci64)[j * 1 + 0]? = some (.int .i64 (l[j])) := (flat_at zci64 hj (by decide)).trans rfl
  have b0 := cnt_bd q0 h1
  rw [show cntV (.int .i64 (l[j])) = 1 from rfl] at b0
  have x0 : k + (cntP (l.flatMap ci64) (j * 1 + 0) : Int) + 1 = k + (cntP (l.flatMap ci64) (j * 1 + 1) : Int) := cnt_s1 (k := k) q0 rfl
  have n0 : 0 ≤ k + (cntP (l.flatMap ci64) (j * 1 + 0) : Int) := cnt_nn h0
  obtain ⟨u0, c0, f0, hI1⟩ := hI0.int' hd hnd q0
  refine ms_seq (ms_rgn (mo_move t0 (mo_move t5 (mo_move t1 (mo_ia tbOk rfl rfl rfl hj (mo_store tbOk rfl rfl rfl rfl c0 f0 rfl (mo_nil ?_)))))))
  generalize hw1 : World.setCell _ _ _ = w1 at hI1 ⊢
  refine ms_rgn (mo_move t1 (mo_add rfl (by omega) (by unfold mB at b0; omega) (mo_asg rfl (mo_nil ?_))))
  rw [x0]
  exact ⟨rfl, t0, rfl, t5, hI1⟩
theorem m_laws_markIntS (l : List Int) (k : Int) (h0 : 0 ≤ k) (h1 : k + cntVs (l.flatMap ci64) ≤ mB) : MarkAt Try.prog 24 (.own 3 l.length (l.flatMap ci64)) k (.own 3 l.length (mkVs mtx (l.flatMap ci64) k)) (k + cntVs (l.flatMap ci64)) :=
  mark_slice tbOk (r := 18) (ty := 25) (it := 3) (bt := 4) lit24 (by decide) rfl (flat_len zci64 l) (by decide) (r_laws_markIntS l k h0 h1 rfl)
def laws_markIntS (x : List Int) (k : Int) : Option ((List Int) × Int) := chk (0 ≤ k ∧ k + (ce25 x : Int) ≤ mB) (some (me25 x k, k + ce25 x))
theorem laws_markIntS_e {x : List Int} {k : Int} (h0 : 0 ≤ k) (h1 : k + (ce25 x : Int) ≤ mB) : laws_markIntS x k = some (me25 x k, k + ce25 x) := chk_pos ⟨h0, h1⟩
theorem laws_markIntS_m {x : List Int} {k : Int} {r : (List Int) × Int} (h : laws_markIntS x k = some r) : MarkAt Try.prog 24 (.own 3 x.length (x.flatMap ci64)) k (.own 3 r.1.length (r.1.flatMap ci64)) r.2 := by
  obtain ⟨⟨h0, h1⟩, h⟩ := chk_some h
  have hr := Option.some.inj h
  subst hr
  have hx := cntVs_flat (f := ci64) (cnt := oneI) hcI x
  have e := m_laws_markIntS x k h0 (by rw [hx]; exact h1)
  rw [mkVs_flat (f := ci64) (cnt := oneI) (mk := markI) hmI hcI, hx] at e
  show MarkAt Try.prog 24 _ k (.own 3 (mkL oneI markI x k).length ((mkL oneI markI x k).flatMap ci64)) (k + (cntL oneI x : Int))
  rw [mkL_length]
  exact e
def ce82 (x : List (List Int)) : Nat := cntL ce25 x
def me82 (x : List (List Int)) (k : Int) : List (List Int) := mkL ce25 me25 x k
theorem hm82 (x : List (List Int)) (k : Int) : mkVs mtx (c82_oo x) k = c82_oo (me82 x k) := by
  unfold c82_oo me82
  exact mkc (mk_own hm25 hc25 x k) (cnt_own hc25 x) rfl
theorem hc82 (x : List (List Int)) : cntVs (c82_oo x) = ce82 x := by
  unfold c82_oo ce82
  exact cntc (cnt_own hc25 x) rfl
theorem dp82 (x : List (List Int)) : deepL (c82_oo x) = true := dpc (dpo dp25 x) rfl
theorem r_laws_markIntSS (l : List (List Int)) (k : Int) (h0 : 0 ≤ k) (h1 : k + cntVs (l.flatMap c25_o) ≤ mB) {body : LC} (hb : body = (.rgn [] [⟨some 12, (.move (.tmp 0)), 82, none⟩,
      ⟨some 13, (.move (.tmp 5)), 3, none⟩,
      ⟨some 14, (.indexAddr 82 (.tmp 12) (.tmp 13)), 0, none⟩,
      ⟨some 15, (.load 25 (.tmp 14)), 25, none⟩,
      ⟨some 16, (.move (.tmp 1)), 3, none⟩,
      ⟨some 17, (.call { callee := (.value (.func 24)), args := #[(.tmp 15), (.tmp 16)], argTypes := #[25, 3] }), 3, none⟩,
      ⟨some 1, (.assign (.tmp 17)), 3, none⟩])) : Round Try.prog 19 [] mtx 25 1 body l.length (l.flatMap c25_o) k := by
  subst hb
  intro St w0 bs g cap j w T hnd hbs hj hI0 t0 t1 t5
  have hd : deepL (l.flatMap c25_o) = true := deep_flat dp25 l
  have hI0 : Inv Try.prog St mtx 25 l.length (l.flatMap c25_o) k (.slice (some ⟨g, 0, none⟩) l.length cap) bs w0 (j * 1 + 0) w := hI0
  have t1 : T 1 = some (.int .i64 (k + (cntP (l.flatMap c25_o) (j * 1 + 0) : Int))) := t1
  have q0 : (l.flatMap c25_o)[j * 1 + 0]? = some (.own 3 (l[j]).length ((l[j]).flatMap ci64)) := (flat_at zc25_o hj (by decide)).trans rfl
  have b0 := cnt_bd q0 h1
  have n0 : 0 ≤ k + (cntP (l.flatMap c25_o) (j * 1 + 0) : Int) := cnt_nn h0
  have k0 := m_laws_markIntS (l[j]) (k + (cntP (l.flatMap c25_o) (j * 1 + 0) : Int)) n0 b0
  obtain ⟨u0, c0, d0⟩ := hI0.own' hd hnd hbs q0 k0
  have d0 : Calls Try.prog 24 #[u0, .int .i64 (k + (cntP (l.flatMap c25_o) (j * 1 + 0) : Int))] w (fun e' w' => e' = .returned (.int .i64 (k + (cntP (l.flatMap c25_o) (j * 1 + 1) : Int))) ∧ Inv Try.prog St mtx 25 l.length (l.flatMap c25_o) k (.slice (some ⟨g, 0, none⟩) l.length cap) bs w0 (j * 1 + 1) w') := d0
  refine ms_rgn (mo_move t0 (mo_move t5 (mo_ia tbOk rfl rfl rfl hj (mo_load tbOk rfl rfl rfl c0 (mo_move t1 (mo_call (lit_hb lit24) (args2 rfl rfl) (d0.mono ?_)))))))
  rintro e0 w1 ⟨rfl, hI1⟩
  refine ⟨_, rfl, mo_asg rfl (mo_nil ?_)⟩
  exact ⟨rfl, t0, rfl, t5, hI1⟩
theorem m_laws_markIntSS (l : List (List Int)) (k : Int) (h0 : 0 ≤ k) (h1 : k + cntVs (l.flatMap c25_o) ≤ mB) : MarkAt Try.prog 178 (.own 25 l.length (l.flatMap c25_o)) k (.own 25 l.length (mkVs mtx (l.flatMap c25_o) k)) (k + cntVs (l.flatMap c25_o)) :=
  mark_slice tbOk (r := 18) (ty := 82) (it := 3) (bt := 4) lit178 (by decide) rfl (flat_len zc25_o l) (by decide) (r_laws_markIntSS l k h0 h1 rfl)
def laws_markIntSS (x : List (List Int)) (k : Int) : Option ((List (List Int)) × Int) := chk (0 ≤ k ∧ k + (ce82 x : Int) ≤ mB) (some (me82 x k, k + ce82 x))
theorem laws_markIntSS_e {x : List (List Int)} {k : Int} (h0 : 0 ≤ k) (h1 : k + (ce82 x : Int) ≤ mB) : laws_markIntSS x k = some (me82 x k, k + ce82 x) := chk_pos ⟨h0, h1⟩
theorem laws_markIntSS_m {x : List (List Int)} {k : Int} {r : (List (List Int)) × Int} (h : laws_markIntSS x k = some r) : MarkAt Try.prog 178 (.own 25 x.length (x.flatMap c25_o)) k (.own 25 r.1.length (r.1.flatMap c25_o)) r.2 := by
  obtain ⟨⟨h0, h1⟩, h⟩ := chk_some h
  have hr := Option.some.inj h
  subst hr
  have hx := cntVs_flat (f := c25_o) (cnt := ce25) hc25 x
  have e := m_laws_markIntSS x k h0 (by rw [hx]; exact h1)
  rw [mkVs_flat (f := c25_o) (cnt := ce25) (mk := me25) hm25 hc25, hx] at e
  show MarkAt Try.prog 178 _ k (.own 25 (mkL ce25 me25 x k).length ((mkL ce25 me25 x k).flatMap c25_o)) (k + (cntL ce25 x : Int))
  rw [mkL_length]
  exact e
def ce128 (x : Int × (List (List Int))) : Nat := (1) + (ce82 x.2)
def me128 (x : Int × (List (List Int))) (k : Int) : Int × (List (List Int)) := ((k), me82 x.2 (k + ((1 : Nat) : Int)))
theorem hm128 (x : Int × (List (List Int))) (k : Int) : mkVs mtx (c128_oo x) k = c128_oo (me128 x k) := by
  have h : mkVs mtx [.int .i64 x.1, .own 25 x.2.length (x.2.flatMap c25_o)] k = _ := (mkc (n := 1) (c' := V.int .i64 _) rfl rfl (mkc (mk_own hm25 hc25 _ _) (cnt_own hc25 _) (show mkVs mtx [] _ = [] from rfl)))
  refine h.trans ?_
  simp only [c128_oo, me128, ce128, ce82, me82, Int.add_assoc, ← Int.natCast_add, Nat.add_assoc, Int.natCast_add]
theorem hc128 (x : Int × (List (List Int))) : cntVs (c128_oo x) = ce128 x := by
  have h : cntVs [.int .i64 x.1, .own 25 x.2.length (x.2.flatMap c25_o)] = _ := (cntc (n := 1) rfl (cntc (cnt_own hc25 _) (show cntVs [] = 0 from rfl)))
  refine (show cntVs (c128_oo x) = _ from h).trans ?_
  simp only [ce128, ce82, me82, Nat.add_assoc, Nat.add_zero]
theorem dp128 (x : Int × (List (List Int))) : deepL (c128_oo x) = true := (dpc rfl (dpc (dpo dp25 _) rfl))
def ce208 (x : (List UInt8) × (Int × (List (List Int)))) : Nat := (1) + (ce128 x.2)
def me208 (x : (List UInt8) × (Int × (List (List Int)))) (k : Int) : (List UInt8) × (Int × (List (List Int))) := (mtx (k), me128 x.2 (k + ((1 : Nat) : Int)))
theorem hm208 (x : (List UInt8) × (Int × (List (List Int)))) (k : Int) : mkVs mtx (c208_oo x) k = c208_oo (me208 x k) := by
  have h : mkVs mtx [.str x.1, .int .i64 x.2.1, .own 25 x.2.2.length (x.2.2.flatMap c25_o)] k = _ := (mkc (n := 1) (c' := V.str _) rfl rfl (mkc (n := 1) (c' := V.int .i64 _) rfl rfl (mkc (mk_own hm25 hc25 _ _) (cnt_own hc25 _) (show mkVs mtx [] _ = [] from rfl))))
  refine h.trans ?_
  simp only [c208_oo, me208, ce208, c128_oo, ce128, ce82, me128, me82, Int.add_assoc, ← Int.natCast_add, Nat.add_assoc, Int.natCast_add]
theorem hc208 (x : (List UInt8) × (Int × (List (List Int)))) : cntVs (c208_oo x) = ce208 x := by
  have h : cntVs [.str x.1, .int .i64 x.2.1, .own 25 x.2.2.length (x.2.2.flatMap c25_o)] = _ := (cntc (n := 1) rfl (cntc (n := 1) rfl (cntc (cnt_own hc25 _) (show cntVs [] = 0 from rfl))))
  refine (show cntVs (c208_oo x) = _ from h).trans ?_
  simp only [ce208, c128_oo, ce128, ce82, me128, me82, Nat.add_assoc, Nat.add_zero]
theorem dp208 (x : (List UInt8) × (Int × (List (List Int)))) : deepL (c208_oo x) = true := (dpc rfl (dpc rfl (dpc (dpo dp25 _) rfl)))
def ce31 (x : List ((List UInt8) × (Int × (List (List Int))))) : Nat := cntL ce208 x
def me31 (x : List ((List UInt8) × (Int × (List (List Int))))) (k : Int) : List ((List UInt8) × (Int × (List (List Int)))) := mkL ce208 me208 x k
theorem hm31 (x : List ((List UInt8) × (Int × (List (List Int))))) (k : Int) : mkVs mtx (c31_ooo x) k = c31_ooo (me31 x k) := by
  unfold c31_ooo me31
  exact mkc (mk_own hm208 hc208 x k) (cnt_own hc208 x) rfl
theorem hc31 (x : List ((List UInt8) × (Int × (List (List Int))))) : cntVs (c31_ooo x) = ce31 x := by
  unfold c31_ooo ce31
  exact cntc (cnt_own hc208 x) rfl
theorem dp31 (x : List ((List UInt8) × (Int × (List (List Int))))) : deepL (c31_ooo x) = true := dpc (dpo dp208 x) rfl
theorem r_laws_markTableS (l : List ((List UInt8) × (Int × (List (List Int))))) (k : Int) (h0 : 0 ≤ k) (h1 : k + cntVs (l.flatMap c208_oo) ≤ mB) {body : LC} (hb : body = (.seq (.rgn [] [⟨some 12, (.move (.tmp 0)), 31, none⟩,
      ⟨some 13, (.move (.tmp 5)), 3, none⟩,
      ⟨some 14, (.move (.tmp 1)), 3, none⟩,
      ⟨some 15, (.call { callee := (.value (.func 177)), args := #[(.tmp 14)], argTypes := #[3] }), 9, none⟩,
      ⟨some 16, (.indexAddr 31 (.tmp 12) (.tmp 13)), 0, none⟩,
      ⟨some 17, (.fieldAddr 208 (.tmp 16) 0), 0, none⟩,
      ⟨none, (.store 9 (.tmp 17) (.tmp 15)), 0, none⟩])
    (.seq (.rgn [] [⟨some 18, (.move (.tmp 1)), 3, none⟩,
      ⟨some 19, (.binOp .add 3 (.tmp 18) (.const (.int .i64 1)) 3), 3, none⟩,
      ⟨some 1, (.assign (.tmp 19)), 3, none⟩])
    (.seq (.rgn [] [⟨some 20, (.move (.tmp 0)), 31, none⟩,
      ⟨some 21, (.move (.tmp 5)), 3, none⟩,
      ⟨some 22, (.move (.tmp 1)), 3, none⟩,
      ⟨some 23, (.indexAddr 31 (.tmp 20) (.tmp 21)), 0, none⟩,
      ⟨some 24, (.fieldAddr 208 (.tmp 23) 1), 0, none⟩,
      ⟨some 25, (.fieldAddr 128 (.tmp 24) 0), 0, none⟩,
      ⟨none, (.store 3 (.tmp 25) (.tmp 22)), 0, none⟩])
    (.seq (.rgn [] [⟨some 26, (.move (.tmp 1)), 3, none⟩,
      ⟨some 27, (.binOp .add 3 (.tmp 26) (.const (.int .i64 1)) 3), 3, none⟩,
      ⟨some 1, (.assign (.tmp 27)), 3, none⟩])
    (.rgn [] [⟨some 28, (.move (.tmp 0)), 31, none⟩,
      ⟨some 29, (.move (.tmp 5)), 3, none⟩,
      ⟨some 30, (.indexAddr 31 (.tmp 28) (.tmp 29)), 0, none⟩,
      ⟨some 31, (.fieldAddr 208 (.tmp 30) 1), 0, none⟩,
      ⟨some 32, (.fieldAddr 128 (.tmp 31) 1), 0, none⟩,
      ⟨some 33, (.load 82 (.tmp 32)), 82, none⟩,
      ⟨some 34, (.move (.tmp 1)), 3, none⟩,
      ⟨some 35, (.call { callee := (.value (.func 178)), args := #[(.tmp 33), (.tmp 34)], argTypes := #[82, 3] }), 3, none⟩,
      ⟨some 1, (.assign (.tmp 35)), 3, none⟩])))))) : Round Try.prog 37 [] mtx 208 3 body l.length (l.flatMap c208_oo) k := by
  subst hb
  intro St w0 bs g cap j w T hnd hbs hj hI0 t0 t1 t5
  have hd : deepL (l.flatMap c208_oo) = true := deep_flat dp208 l
  have hI0 : Inv Try.prog St mtx 208 l.length (l.flatMap c208_oo) k (.slice (some ⟨g, 0, none⟩) l.length cap) bs w0 (j * 3 + 0) w := hI0
  have t1 : T 1 = some (.int .i64 (k + (cntP (l.flatMap c208_oo) (j * 3 + 0) : Int))) := t1
  have q0 : (l.flatMap c208_oo)[j * 3 + 0]? = some (.str ((l[j]).1)) := (flat_at zc208_oo hj (by decide)).trans rfl
  have b0 := cnt_bd q0 h1
  rw [show cntV (.str ((l[j]).1)) = 1 from rfl] at b0
  have x0 : k + (cntP (l.flatMap c208_oo) (j * 3 + 0) : Int) + 1 = k + (cntP (l.flatMap c208_oo) (j * 3 + 1) : Int) := cnt_s1 (k := k) q0 rfl
  have n0 : 0 ≤ k + (cntP (l.flatMap c208_oo) (j * 3 + 0) : Int) := cnt_nn h0
  have q1 : (l.flatMap c208_oo)[j * 3 + 1]? = some (.int .i64 (((l[j]).2).1)) := (flat_at zc208_oo hj (by decide)).trans rfl
  have b1 := cnt_bd q1 h1
  rw [show cntV (.int .i64 (((l[j]).2).1)) = 1 from rfl] at b1
  have x1 : k + (cntP (l.flatMap c208_oo) (j * 3 + 1) : Int) + 1 = k + (cntP (l.flatMap c208_oo) (j * 3 + 2) : Int) := cnt_s1 (k := k) q1 rfl
  have n1 : 0 ≤ k + (cntP (l.flatMap c208_oo) (j * 3 + 1) : Int) := cnt_nn h0
  have q2 : (l.flatMap c208_oo)[j * 3 + 2]? = some (.own 25 (((l[j]).2).2).length ((((l[j]).2).2).flatMap c25_o)) := (flat_at zc208_oo hj (by decide)).trans rfl
  have b2 := cnt_bd q2 h1
  have n2 : 0 ≤ k + (cntP (l.flatMap c208_oo) (j * 3 + 2) : Int) := cnt_nn h0
  refine ms_seq (ms_rgn (mo_move t0 (mo_move t5 (mo_move t1 (mo_call mtx_hb (args1 rfl) ((mtx_calls n0 (by omega) w).mono ?_))))))
  rintro e0 w1 ⟨rfl, z0⟩
  have hI0 := hI0.grow hd hbs z0
  obtain ⟨u0, c0, f0, hI1⟩ := hI0.str' hd hnd q0 (mtx_len n0 (by omega))
  refine ⟨_, rfl, mo_ia tbOk rfl rfl rfl hj (mo_fa tbOk rfl rfl rfl (mo_store tbOk rfl rfl rfl rfl c0 f0 rfl (mo_nil ?_)))⟩
  generalize hw2 : World.setCell _ _ _ = w2 at hI1 ⊢
  refine ms_seq (ms_rgn (mo_move t1 (mo_add rfl (by omega) (by unfold mB at b0; omega) (mo_asg rfl (mo_nil ?_)))))
  rw [x0]
  obtain ⟨u1, c1, f1, hI2⟩ := hI1.int' hd hnd q1
  refine ms_seq (ms_rgn (mo_move t0 (mo_move t5 (mo_move rfl (mo_ia tbOk rfl rfl rfl hj (mo_fa tbOk rfl rfl rfl (mo_fa tbOk rfl rfl rfl (mo_store tbOk rfl rfl rfl rfl c1 f1 rfl (mo_nil ?_)))))))))
  generalize hw3 : World.setCell _ _ _ = w3 at hI2 ⊢
  refine ms_seq (ms_rgn (mo_move rfl (mo_add rfl (by omega) (by unfold mB at b1; omega) (mo_asg rfl (mo_nil ?_)))))
  rw [x1]
  have k2 := m_laws_markIntSS (((l[j]).2).2) (k + (cntP (l.flatMap c208_oo) (j * 3 + 2) : Int)) n2 b2
  obtain ⟨u2, c2, d2⟩ := hI2.own' hd hnd hbs q2 k2
  have d2 : Calls Try.prog 178 #[u2, .int .i64 (k + (cntP (l.flatMap c208_oo) (j * 3 + 2) : Int))] w3 (fun e' w' => e' = .returned (.int .i64 (k + (cntP (l.flatMap c208_oo) (j * 3 + 3) : Int))) ∧ Inv Try.prog St mtx 208 l.length (l.flatMap c208_oo) k (.slice (some ⟨g, 0, none⟩) l.length cap) bs w0 (j * 3 + 3) w') := d2
  refine ms_rgn (mo_move t0 (mo_move t5 (mo_ia tbOk rfl rfl rfl hj (mo_fa tbOk rfl rfl rfl (mo_fa tbOk rfl rfl rfl (mo_load tbOk rfl rfl rfl c2 (mo_move rfl (mo_call (lit_hb lit178) (args2 rfl rfl) (d2.mono ?_)))))))))
  rintro e2 w4 ⟨rfl, hI3⟩
  refine ⟨_, rfl, mo_asg rfl (mo_nil ?_)⟩
  exact ⟨rfl, t0, rfl, t5, hI3⟩
theorem m_laws_markTableS (l : List ((List UInt8) × (Int × (List (List Int))))) (k : Int) (h0 : 0 ≤ k) (h1 : k + cntVs (l.flatMap c208_oo) ≤ mB) : MarkAt Try.prog 83 (.own 208 l.length (l.flatMap c208_oo)) k (.own 208 l.length (mkVs mtx (l.flatMap c208_oo) k)) (k + cntVs (l.flatMap c208_oo)) :=
  mark_slice tbOk (r := 36) (ty := 31) (it := 3) (bt := 4) lit83 (by decide) rfl (flat_len zc208_oo l) (by decide) (r_laws_markTableS l k h0 h1 rfl)
def laws_markTableS (x : List ((List UInt8) × (Int × (List (List Int))))) (k : Int) : Option ((List ((List UInt8) × (Int × (List (List Int))))) × Int) := chk (0 ≤ k ∧ k + (ce31 x : Int) ≤ mB) (some (me31 x k, k + ce31 x))
theorem laws_markTableS_e {x : List ((List UInt8) × (Int × (List (List Int))))} {k : Int} (h0 : 0 ≤ k) (h1 : k + (ce31 x : Int) ≤ mB) : laws_markTableS x k = some (me31 x k, k + ce31 x) := chk_pos ⟨h0, h1⟩
theorem laws_markTableS_m {x : List ((List UInt8) × (Int × (List (List Int))))} {k : Int} {r : (List ((List UInt8) × (Int × (List (List Int))))) × Int} (h : laws_markTableS x k = some r) : MarkAt Try.prog 83 (.own 208 x.length (x.flatMap c208_oo)) k (.own 208 r.1.length (r.1.flatMap c208_oo)) r.2 := by
  obtain ⟨⟨h0, h1⟩, h⟩ := chk_some h
  have hr := Option.some.inj h
  subst hr
  have hx := cntVs_flat (f := c208_oo) (cnt := ce208) hc208 x
  have e := m_laws_markTableS x k h0 (by rw [hx]; exact h1)
  rw [mkVs_flat (f := c208_oo) (cnt := ce208) (mk := me208) hm208 hc208, hx] at e
  show MarkAt Try.prog 83 _ k (.own 208 (mkL ce208 me208 x k).length ((mkL ce208 me208 x k).flatMap c208_oo)) (k + (cntL ce208 x : Int))
  rw [mkL_length]
  exact e
def ce33 (x : (List ((List UInt8) × (Int × (List (List Int)))))) : Nat := (ce31 x)
def me33 (x : (List ((List UInt8) × (Int × (List (List Int)))))) (k : Int) : (List ((List UInt8) × (Int × (List (List Int))))) := (me31 x (k))
theorem hm33 (x : (List ((List UInt8) × (Int × (List (List Int)))))) (k : Int) : mkVs mtx (c33_ooo x) k = c33_ooo (me33 x k) := by
  have h : mkVs mtx [.own 208 x.length (x.flatMap c208_oo)] k = _ := (mkc (mk_own hm208 hc208 _ _) (cnt_own hc208 _) (show mkVs mtx [] _ = [] from rfl))
  refine h.trans ?_
  simp only [c33_ooo, me33, ce33, ce31, me31, Int.add_assoc, ← Int.natCast_add, Nat.add_assoc, Int.natCast_add]
theorem hc33 (x : (List ((List UInt8) × (Int × (List (List Int)))))) : cntVs (c33_ooo x) = ce33 x := by
  have h : cntVs [.own 208 x.length (x.flatMap c208_oo)] = _ := (cntc (cnt_own hc208 _) (show cntVs [] = 0 from rfl))
  refine (show cntVs (c33_ooo x) = _ from h).trans ?_
  simp only [ce33, ce31, me31, Nat.add_assoc, Nat.add_zero]
theorem dp33 (x : (List ((List UInt8) × (Int × (List (List Int)))))) : deepL (c33_ooo x) = true := (dpc (dpo dp208 _) rfl)
def cs33 (x : (List ((List UInt8) × (Int × (List (List Int)))))) : Nat := ce31 x
def ms33 (x : (List ((List UInt8) × (Int × (List (List Int)))))) (k : Int) : (List ((List UInt8) × (Int × (List (List Int))))) := me31 x (k)
theorem hs33 (x : (List ((List UInt8) × (Int × (List (List Int)))))) (k : Int) : mkA mtx (c33_ooo x) k = c33_ooo (ms33 x k) := by
  have h : mkA mtx [.own 208 x.length (x.flatMap c208_oo)] k = _ := (mkao hm208 hc208 _ (show mkA mtx [] _ = [] from rfl))
  refine h.trans ?_
  simp only [c33_ooo, ms33, cs33, ce31, me31, Int.add_assoc, ← Int.natCast_add, Nat.add_assoc, Int.natCast_add]
theorem hz33 (x : (List ((List UInt8) × (Int × (List (List Int)))))) : cntA (c33_ooo x) = cs33 x := by
  have h : cntA [.own 208 x.length (x.flatMap c208_oo)] = _ := (cntao hc208 _ (show cntA [] = 0 from rfl))
  refine (show cntA (c33_ooo x) = _ from h).trans ?_
  simp only [cs33, ce31, me31, Nat.add_assoc, Nat.add_zero, Nat.zero_add]
theorem m_laws_markDatabase (x : (List ((List UInt8) × (Int × (List (List Int)))))) (k : Int) (h0 : 0 ≤ k) (h1 : k + cntA (c33_ooo x) ≤ mB) : MarkAt Try.prog 22 (.agg (c33_ooo x)) k (.agg (mkA mtx (c33_ooo x) k)) (k + cntA (c33_ooo x)) := by
  refine ⟨lit_hb lit22, fun w0 St v bs hO hnd hbs => ?_⟩
  obtain ⟨us, rfl, hO⟩ := hO
  refine calls_ms (rs := []) (vs := [.agg us.toArray, .int .i64 k]) lit22 (Nat.le_of_ble_eq_true rfl) ?_
  have hd : deepL (c33_ooo x) = true := dp33 x
  have hI0 := InvA.start (mt := mtx) (k := k) (t := 33) hO hd hbs
  refine ms_seq (ms_rgn (mo_box rfl (mo_asgc (mo_nil ?_))))
  have q0 : (c33_ooo x)[0]? = some (.own 208 x.length (x.flatMap c208_oo)) := rfl
  obtain ⟨u0, c0, d0⟩ := hI0.own hd hnd hbs q0 (m_laws_markTableS x (k + (cntA ((c33_ooo x).take 0) : Int)) (by omega) (cntA_bd q0 h1))
  refine ms_seq (ms_rgn (mo_fa tbOk rfl rfl rfl (mo_load tbOk rfl rfl rfl c0 (mo_move (t1_0 (k := k) (n := cntA ((c33_ooo x).take 0)) rfl) (mo_call (lit_hb lit83) (args2 rfl rfl) (d0.mono ?_))))))
  rintro e0 w1 ⟨rfl, hI1⟩
  refine ⟨_, rfl, mo_asg rfl (mo_nil ?_)⟩
  obtain ⟨hx, hy⟩ := hI1.done (Nat.le_of_ble_eq_true rfl)
  refine ms_seq (ms_rgn (mo_move rfl (mo_asg rfl (mo_nil ?_))))
  exact ms_ret ⟨.inl rfl, _, rfl, rfl, ⟨us, rfl, hx⟩, hy⟩
def laws_markDatabase (x : (List ((List UInt8) × (Int × (List (List Int)))))) (k : Int) : Option (((List ((List UInt8) × (Int × (List (List Int)))))) × Int) := chk (0 ≤ k ∧ k + (cs33 x : Int) ≤ mB) (some (ms33 x k, k + cs33 x))
theorem laws_markDatabase_e {x : (List ((List UInt8) × (Int × (List (List Int)))))} {k : Int} (h0 : 0 ≤ k) (h1 : k + (cs33 x : Int) ≤ mB) : laws_markDatabase x k = some (ms33 x k, k + cs33 x) := chk_pos ⟨h0, h1⟩
theorem laws_markDatabase_m {x : (List ((List UInt8) × (Int × (List (List Int)))))} {k : Int} {r : ((List ((List UInt8) × (Int × (List (List Int)))))) × Int} (h : laws_markDatabase x k = some r) : MarkAt Try.prog 22 (.agg (c33_ooo x)) k (.agg (c33_ooo r.1)) r.2 := by
  obtain ⟨⟨h0, h1⟩, h⟩ := chk_some h
  have hr := Option.some.inj h
  subst hr
  have e := m_laws_markDatabase x k h0 (by rw [hz33]; exact h1)
  rw [hs33, hz33] at e
  exact e
def ce195 (x : (List UInt8) × (List Int)) : Nat := (1) + (ce25 x.2)
def me195 (x : (List UInt8) × (List Int)) (k : Int) : (List UInt8) × (List Int) := (mtx (k), me25 x.2 (k + ((1 : Nat) : Int)))
theorem hm195 (x : (List UInt8) × (List Int)) (k : Int) : mkVs mtx (c195_o x) k = c195_o (me195 x k) := by
  have h : mkVs mtx [.str x.1, .own 3 x.2.length (x.2.flatMap ci64)] k = _ := (mkc (n := 1) (c' := V.str _) rfl rfl (mkc (mk_own hmI hcI _ _) (cnt_own hcI _) (show mkVs mtx [] _ = [] from rfl)))
  refine h.trans ?_
  simp only [c195_o, me195, ce195, ce25, me25, Int.add_assoc, ← Int.natCast_add, Nat.add_assoc, Int.natCast_add]
theorem hc195 (x : (List UInt8) × (List Int)) : cntVs (c195_o x) = ce195 x := by
  have h : cntVs [.str x.1, .own 3 x.2.length (x.2.flatMap ci64)] = _ := (cntc (n := 1) rfl (cntc (cnt_own hcI _) (show cntVs [] = 0 from rfl)))
  refine (show cntVs (c195_o x) = _ from h).trans ?_
  simp only [ce195, ce25, me25, Nat.add_assoc, Nat.add_zero]
theorem dp195 (x : (List UInt8) × (List Int)) : deepL (c195_o x) = true := (dpc rfl (dpc (dpo (fun _ => rfl) _) rfl))
def ce90 (x : List ((List UInt8) × (List Int))) : Nat := cntL ce195 x
def me90 (x : List ((List UInt8) × (List Int))) (k : Int) : List ((List UInt8) × (List Int)) := mkL ce195 me195 x k
theorem hm90 (x : List ((List UInt8) × (List Int))) (k : Int) : mkVs mtx (c90_oo x) k = c90_oo (me90 x k) := by
  unfold c90_oo me90
  exact mkc (mk_own hm195 hc195 x k) (cnt_own hc195 x) rfl
theorem hc90 (x : List ((List UInt8) × (List Int))) : cntVs (c90_oo x) = ce90 x := by
  unfold c90_oo ce90
  exact cntc (cnt_own hc195 x) rfl
theorem dp90 (x : List ((List UInt8) × (List Int))) : deepL (c90_oo x) = true := dpc (dpo dp195 x) rfl
theorem r_laws_markAtomS (l : List ((List UInt8) × (List Int))) (k : Int) (h0 : 0 ≤ k) (h1 : k + cntVs (l.flatMap c195_o) ≤ mB) {body : LC} (hb : body = (.seq (.rgn [] [⟨some 12, (.move (.tmp 0)), 90, none⟩,
      ⟨some 13, (.move (.tmp 5)), 3, none⟩,
      ⟨some 14, (.move (.tmp 1)), 3, none⟩,
      ⟨some 15, (.call { callee := (.value (.func 177)), args := #[(.tmp 14)], argTypes := #[3] }), 9, none⟩,
      ⟨some 16, (.indexAddr 90 (.tmp 12) (.tmp 13)), 0, none⟩,
      ⟨some 17, (.fieldAddr 195 (.tmp 16) 0), 0, none⟩,
      ⟨none, (.store 9 (.tmp 17) (.tmp 15)), 0, none⟩])
    (.seq (.rgn [] [⟨some 18, (.move (.tmp 1)), 3, none⟩,
      ⟨some 19, (.binOp .add 3 (.tmp 18) (.const (.int .i64 1)) 3), 3, none⟩,
      ⟨some 1, (.assign (.tmp 19)), 3, none⟩])
    (.rgn [] [⟨some 20, (.move (.tmp 0)), 90, none⟩,
      ⟨some 21, (.move (.tmp 5)), 3, none⟩,
      ⟨some 22, (.indexAddr 90 (.tmp 20) (.tmp 21)), 0, none⟩,
      ⟨some 23, (.fieldAddr 195 (.tmp 22) 1), 0, none⟩,
      ⟨some 24, (.load 25 (.tmp 23)), 25, none⟩,
      ⟨some 25, (.move (.tmp 1)), 3, none⟩,
      ⟨some 26, (.call { callee := (.value (.func 24)), args := #[(.tmp 24), (.tmp 25)], argTypes := #[25, 3] }), 3, none⟩,
      ⟨some 1, (.assign (.tmp 26)), 3, none⟩])))) : Round Try.prog 28 [] mtx 195 2 body l.length (l.flatMap c195_o) k := by
  subst hb
  intro St w0 bs g cap j w T hnd hbs hj hI0 t0 t1 t5
  have hd : deepL (l.flatMap c195_o) = true := deep_flat dp195 l
  have hI0 : Inv Try.prog St mtx 195 l.length (l.flatMap c195_o) k (.slice (some ⟨g, 0, none⟩) l.length cap) bs w0 (j * 2 + 0) w := hI0
  have t1 : T 1 = some (.int .i64 (k + (cntP (l.flatMap c195_o) (j * 2 + 0) : Int))) := t1
  have q0 : (l.flatMap c195_o)[j * 2 + 0]? = some (.str ((l[j]).1)) := (flat_at zc195_o hj (by decide)).trans rfl
  have b0 := cnt_bd q0 h1
  rw [show cntV (.str ((l[j]).1)) = 1 from rfl] at b0
  have x0 : k + (cntP (l.flatMap c195_o) (j * 2 + 0) : Int) + 1 = k + (cntP (l.flatMap c195_o) (j * 2 + 1) : Int) := cnt_s1 (k := k) q0 rfl
  have n0 : 0 ≤ k + (cntP (l.flatMap c195_o) (j * 2 + 0) : Int) := cnt_nn h0
  have q1 : (l.flatMap c195_o)[j * 2 + 1]? = some (.own 3 ((l[j]).2).length (((l[j]).2).flatMap ci64)) := (flat_at zc195_o hj (by decide)).trans rfl
  have b1 := cnt_bd q1 h1
  have n1 : 0 ≤ k + (cntP (l.flatMap c195_o) (j * 2 + 1) : Int) := cnt_nn h0
  refine ms_seq (ms_rgn (mo_move t0 (mo_move t5 (mo_move t1 (mo_call mtx_hb (args1 rfl) ((mtx_calls n0 (by omega) w).mono ?_))))))
  rintro e0 w1 ⟨rfl, z0⟩
  have hI0 := hI0.grow hd hbs z0
  obtain ⟨u0, c0, f0, hI1⟩ := hI0.str' hd hnd q0 (mtx_len n0 (by omega))
  refine ⟨_, rfl, mo_ia tbOk rfl rfl rfl hj (mo_fa tbOk rfl rfl rfl (mo_store tbOk rfl rfl rfl rfl c0 f0 rfl (mo_nil ?_)))⟩
  generalize hw2 : World.setCell _ _ _ = w2 at hI1 ⊢
  refine ms_seq (ms_rgn (mo_move t1 (mo_add rfl (by omega) (by unfold mB at b0; omega) (mo_asg rfl (mo_nil ?_)))))
  rw [x0]
  have k1 := m_laws_markIntS ((l[j]).2) (k + (cntP (l.flatMap c195_o) (j * 2 + 1) : Int)) n1 b1
  obtain ⟨u1, c1, d1⟩ := hI1.own' hd hnd hbs q1 k1
  have d1 : Calls Try.prog 24 #[u1, .int .i64 (k + (cntP (l.flatMap c195_o) (j * 2 + 1) : Int))] w2 (fun e' w' => e' = .returned (.int .i64 (k + (cntP (l.flatMap c195_o) (j * 2 + 2) : Int))) ∧ Inv Try.prog St mtx 195 l.length (l.flatMap c195_o) k (.slice (some ⟨g, 0, none⟩) l.length cap) bs w0 (j * 2 + 2) w') := d1
  refine ms_rgn (mo_move t0 (mo_move t5 (mo_ia tbOk rfl rfl rfl hj (mo_fa tbOk rfl rfl rfl (mo_load tbOk rfl rfl rfl c1 (mo_move rfl (mo_call (lit_hb lit24) (args2 rfl rfl) (d1.mono ?_))))))))
  rintro e1 w3 ⟨rfl, hI2⟩
  refine ⟨_, rfl, mo_asg rfl (mo_nil ?_)⟩
  exact ⟨rfl, t0, rfl, t5, hI2⟩
theorem m_laws_markAtomS (l : List ((List UInt8) × (List Int))) (k : Int) (h0 : 0 ≤ k) (h1 : k + cntVs (l.flatMap c195_o) ≤ mB) : MarkAt Try.prog 153 (.own 195 l.length (l.flatMap c195_o)) k (.own 195 l.length (mkVs mtx (l.flatMap c195_o) k)) (k + cntVs (l.flatMap c195_o)) :=
  mark_slice tbOk (r := 27) (ty := 90) (it := 3) (bt := 4) lit153 (by decide) rfl (flat_len zc195_o l) (by decide) (r_laws_markAtomS l k h0 h1 rfl)
def laws_markAtomS (x : List ((List UInt8) × (List Int))) (k : Int) : Option ((List ((List UInt8) × (List Int))) × Int) := chk (0 ≤ k ∧ k + (ce90 x : Int) ≤ mB) (some (me90 x k, k + ce90 x))
theorem laws_markAtomS_e {x : List ((List UInt8) × (List Int))} {k : Int} (h0 : 0 ≤ k) (h1 : k + (ce90 x : Int) ≤ mB) : laws_markAtomS x k = some (me90 x k, k + ce90 x) := chk_pos ⟨h0, h1⟩
theorem laws_markAtomS_m {x : List ((List UInt8) × (List Int))} {k : Int} {r : (List ((List UInt8) × (List Int))) × Int} (h : laws_markAtomS x k = some r) : MarkAt Try.prog 153 (.own 195 x.length (x.flatMap c195_o)) k (.own 195 r.1.length (r.1.flatMap c195_o)) r.2 := by
  obtain ⟨⟨h0, h1⟩, h⟩ := chk_some h
  have hr := Option.some.inj h
  subst hr
  have hx := cntVs_flat (f := c195_o) (cnt := ce195) hc195 x
  have e := m_laws_markAtomS x k h0 (by rw [hx]; exact h1)
  rw [mkVs_flat (f := c195_o) (cnt := ce195) (mk := me195) hm195 hc195, hx] at e
  show MarkAt Try.prog 153 _ k (.own 195 (mkL ce195 me195 x k).length ((mkL ce195 me195 x k).flatMap c195_o)) (k + (cntL ce195 x : Int))
  rw [mkL_length]
  exact e
def ce92 (x : Int × (List ((List UInt8) × (List Int))) × (List Int)) : Nat := (1) + (ce90 x.2.1) + (ce25 x.2.2)
def me92 (x : Int × (List ((List UInt8) × (List Int))) × (List Int)) (k : Int) : Int × (List ((List UInt8) × (List Int))) × (List Int) := ((k), me90 x.2.1 (k + ((1 : Nat) : Int)), me25 x.2.2 (k + ((1 : Nat) : Int) + ((ce90 x.2.1 : Nat) : Int)))
theorem hm92 (x : Int × (List ((List UInt8) × (List Int))) × (List Int)) (k : Int) : mkVs mtx (c92_ooo x) k = c92_ooo (me92 x k) := by
  have h : mkVs mtx [.int .i64 x.1, .own 195 x.2.1.length (x.2.1.flatMap c195_o), .own 3 x.2.2.length (x.2.2.flatMap ci64)] k = _ := (mkc (n := 1) (c' := V.int .i64 _) rfl rfl (mkc (mk_own hm195 hc195 _ _) (cnt_own hc195 _) (mkc (mk_own hmI hcI _ _) (cnt_own hcI _) (show mkVs mtx [] _ = [] from rfl))))
  refine h.trans ?_
  simp only [c92_ooo, me92, ce92, ce25, ce90, me25, me90, Int.add_assoc, ← Int.natCast_add, Nat.add_assoc, Int.natCast_add]
theorem hc92 (x : Int × (List ((List UInt8) × (List Int))) × (List Int)) : cntVs (c92_ooo x) = ce92 x := by
  have h : cntVs [.int .i64 x.1, .own 195 x.2.1.length (x.2.1.flatMap c195_o), .own 3 x.2.2.length (x.2.2.flatMap ci64)] = _ := (cntc (n := 1) rfl (cntc (cnt_own hc195 _) (cntc (cnt_own hcI _) (show cntVs [] = 0 from rfl))))
  refine (show cntVs (c92_ooo x) = _ from h).trans ?_
  simp only [ce92, ce25, ce90, me25, me90, Nat.add_assoc, Nat.add_zero]
theorem dp92 (x : Int × (List ((List UInt8) × (List Int))) × (List Int)) : deepL (c92_ooo x) = true := (dpc rfl (dpc (dpo dp195 _) (dpc (dpo (fun _ => rfl) _) rfl)))
def ce159 (x : Int × (List (List Int)) × (List Int)) : Nat := (1) + (ce82 x.2.1) + (ce25 x.2.2)
def me159 (x : Int × (List (List Int)) × (List Int)) (k : Int) : Int × (List (List Int)) × (List Int) := ((k), me82 x.2.1 (k + ((1 : Nat) : Int)), me25 x.2.2 (k + ((1 : Nat) : Int) + ((ce82 x.2.1 : Nat) : Int)))
theorem hm159 (x : Int × (List (List Int)) × (List Int)) (k : Int) : mkVs mtx (c159_ooo x) k = c159_ooo (me159 x k) := by
  have h : mkVs mtx [.int .i64 x.1, .own 25 x.2.1.length (x.2.1.flatMap c25_o), .own 3 x.2.2.length (x.2.2.flatMap ci64)] k = _ := (mkc (n := 1) (c' := V.int .i64 _) rfl rfl (mkc (mk_own hm25 hc25 _ _) (cnt_own hc25 _) (mkc (mk_own hmI hcI _ _) (cnt_own hcI _) (show mkVs mtx [] _ = [] from rfl))))
  refine h.trans ?_
  simp only [c159_ooo, me159, ce159, ce25, ce82, me25, me82, Int.add_assoc, ← Int.natCast_add, Nat.add_assoc, Int.natCast_add]
theorem hc159 (x : Int × (List (List Int)) × (List Int)) : cntVs (c159_ooo x) = ce159 x := by
  have h : cntVs [.int .i64 x.1, .own 25 x.2.1.length (x.2.1.flatMap c25_o), .own 3 x.2.2.length (x.2.2.flatMap ci64)] = _ := (cntc (n := 1) rfl (cntc (cnt_own hc25 _) (cntc (cnt_own hcI _) (show cntVs [] = 0 from rfl))))
  refine (show cntVs (c159_ooo x) = _ from h).trans ?_
  simp only [ce159, ce25, ce82, me25, me82, Nat.add_assoc, Nat.add_zero]
theorem dp159 (x : Int × (List (List Int)) × (List Int)) : deepL (c159_ooo x) = true := (dpc rfl (dpc (dpo dp25 _) (dpc (dpo (fun _ => rfl) _) rfl)))
def ce161 (x : (Int × (List ((List UInt8) × (List Int))) × (List Int)) × (Int × (List (List Int)) × (List Int))) : Nat := (ce92 x.1) + (ce159 x.2)
def me161 (x : (Int × (List ((List UInt8) × (List Int))) × (List Int)) × (Int × (List (List Int)) × (List Int))) (k : Int) : (Int × (List ((List UInt8) × (List Int))) × (List Int)) × (Int × (List (List Int)) × (List Int)) := (me92 x.1 (k), me159 x.2 (k + ((ce92 x.1 : Nat) : Int)))
theorem hm161 (x : (Int × (List ((List UInt8) × (List Int))) × (List Int)) × (Int × (List (List Int)) × (List Int))) (k : Int) : mkVs mtx (c161_oooooo x) k = c161_oooooo (me161 x k) := by
  have h : mkVs mtx [.int .i64 x.1.1, .own 195 x.1.2.1.length (x.1.2.1.flatMap c195_o), .own 3 x.1.2.2.length (x.1.2.2.flatMap ci64), .int .i64 x.2.1, .own 25 x.2.2.1.length (x.2.2.1.flatMap c25_o), .own 3 x.2.2.2.length (x.2.2.2.flatMap ci64)] k = _ := (mkc (n := 1) (c' := V.int .i64 _) rfl rfl (mkc (mk_own hm195 hc195 _ _) (cnt_own hc195 _) (mkc (mk_own hmI hcI _ _) (cnt_own hcI _) (mkc (n := 1) (c' := V.int .i64 _) rfl rfl (mkc (mk_own hm25 hc25 _ _) (cnt_own hc25 _) (mkc (mk_own hmI hcI _ _) (cnt_own hcI _) (show mkVs mtx [] _ = [] from rfl)))))))
  refine h.trans ?_
  simp only [c161_oooooo, me161, ce161, c159_ooo, c92_ooo, ce159, ce25, ce82, ce90, ce92, me159, me25, me82, me90, me92, Int.add_assoc, ← Int.natCast_add, Nat.add_assoc, Int.natCast_add]
theorem hc161 (x : (Int × (List ((List UInt8) × (List Int))) × (List Int)) × (Int × (List (List Int)) × (List Int))) : cntVs (c161_oooooo x) = ce161 x := by
  have h : cntVs [.int .i64 x.1.1, .own 195 x.1.2.1.length (x.1.2.1.flatMap c195_o), .own 3 x.1.2.2.length (x.1.2.2.flatMap ci64), .int .i64 x.2.1, .own 25 x.2.2.1.length (x.2.2.1.flatMap c25_o), .own 3 x.2.2.2.length (x.2.2.2.flatMap ci64)] = _ := (cntc (n := 1) rfl (cntc (cnt_own hc195 _) (cntc (cnt_own hcI _) (cntc (n := 1) rfl (cntc (cnt_own hc25 _) (cntc (cnt_own hcI _) (show cntVs [] = 0 from rfl)))))))
  refine (show cntVs (c161_oooooo x) = _ from h).trans ?_
  simp only [ce161, c159_ooo, c92_ooo, ce159, ce25, ce82, ce90, ce92, me159, me25, me82, me90, me92, Nat.add_assoc, Nat.add_zero]
theorem dp161 (x : (Int × (List ((List UInt8) × (List Int))) × (List Int)) × (Int × (List (List Int)) × (List Int))) : deepL (c161_oooooo x) = true := (dpc rfl (dpc (dpo dp195 _) (dpc (dpo (fun _ => rfl) _) (dpc rfl (dpc (dpo dp25 _) (dpc (dpo (fun _ => rfl) _) rfl))))))
def ce71 (x : List ((Int × (List ((List UInt8) × (List Int))) × (List Int)) × (Int × (List (List Int)) × (List Int)))) : Nat := cntL ce161 x
def me71 (x : List ((Int × (List ((List UInt8) × (List Int))) × (List Int)) × (Int × (List (List Int)) × (List Int)))) (k : Int) : List ((Int × (List ((List UInt8) × (List Int))) × (List Int)) × (Int × (List (List Int)) × (List Int))) := mkL ce161 me161 x k
theorem hm71 (x : List ((Int × (List ((List UInt8) × (List Int))) × (List Int)) × (Int × (List (List Int)) × (List Int)))) (k : Int) : mkVs mtx (c71_ooooooo x) k = c71_ooooooo (me71 x k) := by
  unfold c71_ooooooo me71
  exact mkc (mk_own hm161 hc161 x k) (cnt_own hc161 x) rfl
theorem hc71 (x : List ((Int × (List ((List UInt8) × (List Int))) × (List Int)) × (Int × (List (List Int)) × (List Int)))) : cntVs (c71_ooooooo x) = ce71 x := by
  unfold c71_ooooooo ce71
  exact cntc (cnt_own hc161 x) rfl
theorem dp71 (x : List ((Int × (List ((List UInt8) × (List Int))) × (List Int)) × (Int × (List (List Int)) × (List Int)))) : deepL (c71_ooooooo x) = true := dpc (dpo dp161 x) rfl
theorem r_laws_markViewS (l : List ((Int × (List ((List UInt8) × (List Int))) × (List Int)) × (Int × (List (List Int)) × (List Int)))) (k : Int) (h0 : 0 ≤ k) (h1 : k + cntVs (l.flatMap c161_oooooo) ≤ mB) {body : LC} (hb : body = (.seq (.rgn [] [⟨some 12, (.move (.tmp 0)), 71, none⟩,
      ⟨some 13, (.move (.tmp 5)), 3, none⟩,
      ⟨some 14, (.move (.tmp 1)), 3, none⟩,
      ⟨some 15, (.indexAddr 71 (.tmp 12) (.tmp 13)), 0, none⟩,
      ⟨some 16, (.fieldAddr 161 (.tmp 15) 0), 0, none⟩,
      ⟨some 17, (.fieldAddr 92 (.tmp 16) 0), 0, none⟩,
      ⟨none, (.store 3 (.tmp 17) (.tmp 14)), 0, none⟩])
    (.seq (.rgn [] [⟨some 18, (.move (.tmp 1)), 3, none⟩,
      ⟨some 19, (.binOp .add 3 (.tmp 18) (.const (.int .i64 1)) 3), 3, none⟩,
      ⟨some 1, (.assign (.tmp 19)), 3, none⟩])
    (.seq (.rgn [] [⟨some 20, (.move (.tmp 0)), 71, none⟩,
      ⟨some 21, (.move (.tmp 5)), 3, none⟩,
      ⟨some 22, (.indexAddr 71 (.tmp 20) (.tmp 21)), 0, none⟩,
      ⟨some 23, (.fieldAddr 161 (.tmp 22) 0), 0, none⟩,
      ⟨some 24, (.fieldAddr 92 (.tmp 23) 1), 0, none⟩,
      ⟨some 25, (.load 90 (.tmp 24)), 90, none⟩,
      ⟨some 26, (.move (.tmp 1)), 3, none⟩,
      ⟨some 27, (.call { callee := (.value (.func 153)), args := #[(.tmp 25), (.tmp 26)], argTypes := #[90, 3] }), 3, none⟩,
      ⟨some 1, (.assign (.tmp 27)), 3, none⟩])
    (.seq (.rgn [] [⟨some 28, (.move (.tmp 0)), 71, none⟩,
      ⟨some 29, (.move (.tmp 5)), 3, none⟩,
      ⟨some 30, (.indexAddr 71 (.tmp 28) (.tmp 29)), 0, none⟩,
      ⟨some 31, (.fieldAddr 161 (.tmp 30) 0), 0, none⟩,
      ⟨some 32, (.fieldAddr 92 (.tmp 31) 2), 0, none⟩,
      ⟨some 33, (.load 25 (.tmp 32)), 25, none⟩,
      ⟨some 34, (.move (.tmp 1)), 3, none⟩,
      ⟨some 35, (.call { callee := (.value (.func 24)), args := #[(.tmp 33), (.tmp 34)], argTypes := #[25, 3] }), 3, none⟩,
      ⟨some 1, (.assign (.tmp 35)), 3, none⟩])
    (.seq (.rgn [] [⟨some 36, (.move (.tmp 0)), 71, none⟩,
      ⟨some 37, (.move (.tmp 5)), 3, none⟩,
      ⟨some 38, (.move (.tmp 1)), 3, none⟩,
      ⟨some 39, (.indexAddr 71 (.tmp 36) (.tmp 37)), 0, none⟩,
      ⟨some 40, (.fieldAddr 161 (.tmp 39) 1), 0, none⟩,
      ⟨some 41, (.fieldAddr 159 (.tmp 40) 0), 0, none⟩,
      ⟨none, (.store 3 (.tmp 41) (.tmp 38)), 0, none⟩])
    (.seq (.rgn [] [⟨some 42, (.move (.tmp 1)), 3, none⟩,
      ⟨some 43, (.binOp .add 3 (.tmp 42) (.const (.int .i64 1)) 3), 3, none⟩,
      ⟨some 1, (.assign (.tmp 43)), 3, none⟩])
    (.seq (.rgn [] [⟨some 44, (.move (.tmp 0)), 71, none⟩,
      ⟨some 45, (.move (.tmp 5)), 3, none⟩,
      ⟨some 46, (.indexAddr 71 (.tmp 44) (.tmp 45)), 0, none⟩,
      ⟨some 47, (.fieldAddr 161 (.tmp 46) 1), 0, none⟩,
      ⟨some 48, (.fieldAddr 159 (.tmp 47) 1), 0, none⟩,
      ⟨some 49, (.load 82 (.tmp 48)), 82, none⟩,
      ⟨some 50, (.move (.tmp 1)), 3, none⟩,
      ⟨some 51, (.call { callee := (.value (.func 178)), args := #[(.tmp 49), (.tmp 50)], argTypes := #[82, 3] }), 3, none⟩,
      ⟨some 1, (.assign (.tmp 51)), 3, none⟩])
    (.rgn [] [⟨some 52, (.move (.tmp 0)), 71, none⟩,
      ⟨some 53, (.move (.tmp 5)), 3, none⟩,
      ⟨some 54, (.indexAddr 71 (.tmp 52) (.tmp 53)), 0, none⟩,
      ⟨some 55, (.fieldAddr 161 (.tmp 54) 1), 0, none⟩,
      ⟨some 56, (.fieldAddr 159 (.tmp 55) 2), 0, none⟩,
      ⟨some 57, (.load 25 (.tmp 56)), 25, none⟩,
      ⟨some 58, (.move (.tmp 1)), 3, none⟩,
      ⟨some 59, (.call { callee := (.value (.func 24)), args := #[(.tmp 57), (.tmp 58)], argTypes := #[25, 3] }), 3, none⟩,
      ⟨some 1, (.assign (.tmp 59)), 3, none⟩]))))))))) : Round Try.prog 61 [] mtx 161 6 body l.length (l.flatMap c161_oooooo) k := by
  subst hb
  intro St w0 bs g cap j w T hnd hbs hj hI0 t0 t1 t5
  have hd : deepL (l.flatMap c161_oooooo) = true := deep_flat dp161 l
  have hI0 : Inv Try.prog St mtx 161 l.length (l.flatMap c161_oooooo) k (.slice (some ⟨g, 0, none⟩) l.length cap) bs w0 (j * 6 + 0) w := hI0
  have t1 : T 1 = some (.int .i64 (k + (cntP (l.flatMap c161_oooooo) (j * 6 + 0) : Int))) := t1
  have q0 : (l.flatMap c161_oooooo)[j * 6 + 0]? = some (.int .i64 (((l[j]).1).1)) := (flat_at zc161_oooooo hj (by decide)).trans rfl
  have b0 := cnt_bd q0 h1
  rw [show cntV (.int .i64 (((l[j]).1).1)) = 1 from rfl] at b0
  have x0 : k + (cntP (l.flatMap c161_oooooo) (j * 6 + 0) : Int) + 1 = k + (cntP (l.flatMap c161_oooooo) (j * 6 + 1) : Int) := cnt_s1 (k := k) q0 rfl
  have n0 : 0 ≤ k + (cntP (l.flatMap c161_oooooo) (j * 6 + 0) : Int) := cnt_nn h0
  have q1 : (l.flatMap c161_oooooo)[j * 6 + 1]? = some (.own 195 (((l[j]).1).2.1).length ((((l[j]).1).2.1).flatMap c195_o)) := (flat_at zc161_oooooo hj (by decide)).trans rfl
  have b1 := cnt_bd q1 h1
  have n1 : 0 ≤ k + (cntP (l.flatMap c161_oooooo) (j * 6 + 1) : Int) := cnt_nn h0
  have q2 : (l.flatMap c161_oooooo)[j * 6 + 2]? = some (.own 3 (((l[j]).1).2.2).length ((((l[j]).1).2.2).flatMap ci64)) := (flat_at zc161_oooooo hj (by decide)).trans rfl
  have b2 := cnt_bd q2 h1
  have n2 : 0 ≤ k + (cntP (l.flatMap c161_oooooo) (j * 6 + 2) : Int) := cnt_nn h0
  have q3 : (l.flatMap c161_oooooo)[j * 6 + 3]? = some (.int .i64 (((l[j]).2).1)) := (flat_at zc161_oooooo hj (by decide)).trans rfl
  have b3 := cnt_bd q3 h1
  rw [show cntV (.int .i64 (((l[j]).2).1)) = 1 from rfl] at b3
  have x3 : k + (cntP (l.flatMap c161_oooooo) (j * 6 + 3) : Int) + 1 = k + (cntP (l.flatMap c161_oooooo) (j * 6 + 4) : Int) := cnt_s1 (k := k) q3 rfl
  have n3 : 0 ≤ k + (cntP (l.flatMap c161_oooooo) (j * 6 + 3) : Int) := cnt_nn h0
  have q4 : (l.flatMap c161_oooooo)[j * 6 + 4]? = some (.own 25 (((l[j]).2).2.1).length ((((l[j]).2).2.1).flatMap c25_o)) := (flat_at zc161_oooooo hj (by decide)).trans rfl
  have b4 := cnt_bd q4 h1
  have n4 : 0 ≤ k + (cntP (l.flatMap c161_oooooo) (j * 6 + 4) : Int) := cnt_nn h0
  have q5 : (l.flatMap c161_oooooo)[j * 6 + 5]? = some (.own 3 (((l[j]).2).2.2).length ((((l[j]).2).2.2).flatMap ci64)) := (flat_at zc161_oooooo hj (by decide)).trans rfl
  have b5 := cnt_bd q5 h1
  have n5 : 0 ≤ k + (cntP (l.flatMap c161_oooooo) (j * 6 + 5) : Int) := cnt_nn h0
  obtain ⟨u0, c0, f0, hI1⟩ := hI0.int' hd hnd q0
  refine ms_seq (ms_rgn (mo_move t0 (mo_move t5 (mo_move t1 (mo_ia tbOk rfl rfl rfl hj (mo_fa tbOk rfl rfl rfl (mo_fa tbOk rfl rfl rfl (mo_store tbOk rfl rfl rfl rfl c0 f0 rfl (mo_nil ?_)))))))))
  generalize hw1 : World.setCell _ _ _ = w1 at hI1 ⊢
  refine ms_seq (ms_rgn (mo_move t1 (mo_add rfl (by omega) (by unfold mB at b0; omega) (mo_asg rfl (mo_nil ?_)))))
  rw [x0]
  have k1 := m_laws_markAtomS (((l[j]).1).2.1) (k + (cntP (l.flatMap c161_oooooo) (j * 6 + 1) : Int)) n1 b1
  obtain ⟨u1, c1, d1⟩ := hI1.own' hd hnd hbs q1 k1
  have d1 : Calls Try.prog 153 #[u1, .int .i64 (k + (cntP (l.flatMap c161_oooooo) (j * 6 + 1) : Int))] w1 (fun e' w' => e' = .returned (.int .i64 (k + (cntP (l.flatMap c161_oooooo) (j * 6 + 2) : Int))) ∧ Inv Try.prog St mtx 161 l.length (l.flatMap c161_oooooo) k (.slice (some ⟨g, 0, none⟩) l.length cap) bs w0 (j * 6 + 2) w') := d1
  refine ms_seq (ms_rgn (mo_move t0 (mo_move t5 (mo_ia tbOk rfl rfl rfl hj (mo_fa tbOk rfl rfl rfl (mo_fa tbOk rfl rfl rfl (mo_load tbOk rfl rfl rfl c1 (mo_move rfl (mo_call (lit_hb lit153) (args2 rfl rfl) (d1.mono ?_))))))))))
  rintro e1 w2 ⟨rfl, hI2⟩
  refine ⟨_, rfl, mo_asg rfl (mo_nil ?_)⟩
  have k2 := m_laws_markIntS (((l[j]).1).2.2) (k + (cntP (l.flatMap c161_oooooo) (j * 6 + 2) : Int)) n2 b2
  obtain ⟨u2, c2, d2⟩ := hI2.own' hd hnd hbs q2 k2
  have d2 : Calls Try.prog 24 #[u2, .int .i64 (k + (cntP (l.flatMap c161_oooooo) (j * 6 + 2) : Int))] w2 (fun e' w' => e' = .returned (.int .i64 (k + (cntP (l.flatMap c161_oooooo) (j * 6 + 3) : Int))) ∧ Inv Try.prog St mtx 161 l.length (l.flatMap c161_oooooo) k (.slice (some ⟨g, 0, none⟩) l.length cap) bs w0 (j * 6 + 3) w') := d2
  refine ms_seq (ms_rgn (mo_move t0 (mo_move t5 (mo_ia tbOk rfl rfl rfl hj (mo_fa tbOk rfl rfl rfl (mo_fa tbOk rfl rfl rfl (mo_load tbOk rfl rfl rfl c2 (mo_move rfl (mo_call (lit_hb lit24) (args2 rfl rfl) (d2.mono ?_))))))))))
  rintro e2 w3 ⟨rfl, hI3⟩
  refine ⟨_, rfl, mo_asg rfl (mo_nil ?_)⟩
  obtain ⟨u3, c3, f3, hI4⟩ := hI3.int' hd hnd q3
  refine ms_seq (ms_rgn (mo_move t0 (mo_move t5 (mo_move rfl (mo_ia tbOk rfl rfl rfl hj (mo_fa tbOk rfl rfl rfl (mo_fa tbOk rfl rfl rfl (mo_store tbOk rfl rfl rfl rfl c3 f3 rfl (mo_nil ?_)))))))))
  generalize hw4 : World.setCell _ _ _ = w4 at hI4 ⊢
  refine ms_seq (ms_rgn (mo_move rfl (mo_add rfl (by omega) (by unfold mB at b3; omega) (mo_asg rfl (mo_nil ?_)))))
  rw [x3]
  have k4 := m_laws_markIntSS (((l[j]).2).2.1) (k + (cntP (l.flatMap c161_oooooo) (j * 6 + 4) : Int)) n4 b4
  obtain ⟨u4, c4, d4⟩ := hI4.own' hd hnd hbs q4 k4
  have d4 : Calls Try.prog 178 #[u4, .int .i64 (k + (cntP (l.flatMap c161_oooooo) (j * 6 + 4) : Int))] w4 (fun e' w' => e' = .returned (.int .i64 (k + (cntP (l.flatMap c161_oooooo) (j * 6 + 5) : Int))) ∧ Inv Try.prog St mtx 161 l.length (l.flatMap c161_oooooo) k (.slice (some ⟨g, 0, none⟩) l.length cap) bs w0 (j * 6 + 5) w') := d4
  refine ms_seq (ms_rgn (mo_move t0 (mo_move t5 (mo_ia tbOk rfl rfl rfl hj (mo_fa tbOk rfl rfl rfl (mo_fa tbOk rfl rfl rfl (mo_load tbOk rfl rfl rfl c4 (mo_move rfl (mo_call (lit_hb lit178) (args2 rfl rfl) (d4.mono ?_))))))))))
  rintro e4 w5 ⟨rfl, hI5⟩
  refine ⟨_, rfl, mo_asg rfl (mo_nil ?_)⟩
  have k5 := m_laws_markIntS (((l[j]).2).2.2) (k + (cntP (l.flatMap c161_oooooo) (j * 6 + 5) : Int)) n5 b5
  obtain ⟨u5, c5, d5⟩ := hI5.own' hd hnd hbs q5 k5
  have d5 : Calls Try.prog 24 #[u5, .int .i64 (k + (cntP (l.flatMap c161_oooooo) (j * 6 + 5) : Int))] w5 (fun e' w' => e' = .returned (.int .i64 (k + (cntP (l.flatMap c161_oooooo) (j * 6 + 6) : Int))) ∧ Inv Try.prog St mtx 161 l.length (l.flatMap c161_oooooo) k (.slice (some ⟨g, 0, none⟩) l.length cap) bs w0 (j * 6 + 6) w') := d5
  refine ms_rgn (mo_move t0 (mo_move t5 (mo_ia tbOk rfl rfl rfl hj (mo_fa tbOk rfl rfl rfl (mo_fa tbOk rfl rfl rfl (mo_load tbOk rfl rfl rfl c5 (mo_move rfl (mo_call (lit_hb lit24) (args2 rfl rfl) (d5.mono ?_)))))))))
  rintro e5 w6 ⟨rfl, hI6⟩
  refine ⟨_, rfl, mo_asg rfl (mo_nil ?_)⟩
  exact ⟨rfl, t0, rfl, t5, hI6⟩
theorem m_laws_markViewS (l : List ((Int × (List ((List UInt8) × (List Int))) × (List Int)) × (Int × (List (List Int)) × (List Int)))) (k : Int) (h0 : 0 ≤ k) (h1 : k + cntVs (l.flatMap c161_oooooo) ≤ mB) : MarkAt Try.prog 137 (.own 161 l.length (l.flatMap c161_oooooo)) k (.own 161 l.length (mkVs mtx (l.flatMap c161_oooooo) k)) (k + cntVs (l.flatMap c161_oooooo)) :=
  mark_slice tbOk (r := 60) (ty := 71) (it := 3) (bt := 4) lit137 (by decide) rfl (flat_len zc161_oooooo l) (by decide) (r_laws_markViewS l k h0 h1 rfl)
def laws_markViewS (x : List ((Int × (List ((List UInt8) × (List Int))) × (List Int)) × (Int × (List (List Int)) × (List Int)))) (k : Int) : Option ((List ((Int × (List ((List UInt8) × (List Int))) × (List Int)) × (Int × (List (List Int)) × (List Int)))) × Int) := chk (0 ≤ k ∧ k + (ce71 x : Int) ≤ mB) (some (me71 x k, k + ce71 x))
theorem laws_markViewS_e {x : List ((Int × (List ((List UInt8) × (List Int))) × (List Int)) × (Int × (List (List Int)) × (List Int)))} {k : Int} (h0 : 0 ≤ k) (h1 : k + (ce71 x : Int) ≤ mB) : laws_markViewS x k = some (me71 x k, k + ce71 x) := chk_pos ⟨h0, h1⟩
theorem laws_markViewS_m {x : List ((Int × (List ((List UInt8) × (List Int))) × (List Int)) × (Int × (List (List Int)) × (List Int)))} {k : Int} {r : (List ((Int × (List ((List UInt8) × (List Int))) × (List Int)) × (Int × (List (List Int)) × (List Int)))) × Int} (h : laws_markViewS x k = some r) : MarkAt Try.prog 137 (.own 161 x.length (x.flatMap c161_oooooo)) k (.own 161 r.1.length (r.1.flatMap c161_oooooo)) r.2 := by
  obtain ⟨⟨h0, h1⟩, h⟩ := chk_some h
  have hr := Option.some.inj h
  subst hr
  have hx := cntVs_flat (f := c161_oooooo) (cnt := ce161) hc161 x
  have e := m_laws_markViewS x k h0 (by rw [hx]; exact h1)
  rw [mkVs_flat (f := c161_oooooo) (cnt := ce161) (mk := me161) hm161 hc161, hx] at e
  show MarkAt Try.prog 137 _ k (.own 161 (mkL ce161 me161 x k).length ((mkL ce161 me161 x k).flatMap c161_oooooo)) (k + (cntL ce161 x : Int))
  rw [mkL_length]
  exact e
def ce72 (x : List (Int × (List (List Int)) × (List Int))) : Nat := cntL ce159 x
def me72 (x : List (Int × (List (List Int)) × (List Int))) (k : Int) : List (Int × (List (List Int)) × (List Int)) := mkL ce159 me159 x k
theorem hm72 (x : List (Int × (List (List Int)) × (List Int))) (k : Int) : mkVs mtx (c72_oooo x) k = c72_oooo (me72 x k) := by
  unfold c72_oooo me72
  exact mkc (mk_own hm159 hc159 x k) (cnt_own hc159 x) rfl
theorem hc72 (x : List (Int × (List (List Int)) × (List Int))) : cntVs (c72_oooo x) = ce72 x := by
  unfold c72_oooo ce72
  exact cntc (cnt_own hc159 x) rfl
theorem dp72 (x : List (Int × (List (List Int)) × (List Int))) : deepL (c72_oooo x) = true := dpc (dpo dp159 x) rfl
theorem r_laws_markCountedRelationS (l : List (Int × (List (List Int)) × (List Int))) (k : Int) (h0 : 0 ≤ k) (h1 : k + cntVs (l.flatMap c159_ooo) ≤ mB) {body : LC} (hb : body = (.seq (.rgn [] [⟨some 12, (.move (.tmp 0)), 72, none⟩,
      ⟨some 13, (.move (.tmp 5)), 3, none⟩,
      ⟨some 14, (.move (.tmp 1)), 3, none⟩,
      ⟨some 15, (.indexAddr 72 (.tmp 12) (.tmp 13)), 0, none⟩,
      ⟨some 16, (.fieldAddr 159 (.tmp 15) 0), 0, none⟩,
      ⟨none, (.store 3 (.tmp 16) (.tmp 14)), 0, none⟩])
    (.seq (.rgn [] [⟨some 17, (.move (.tmp 1)), 3, none⟩,
      ⟨some 18, (.binOp .add 3 (.tmp 17) (.const (.int .i64 1)) 3), 3, none⟩,
      ⟨some 1, (.assign (.tmp 18)), 3, none⟩])
    (.seq (.rgn [] [⟨some 19, (.move (.tmp 0)), 72, none⟩,
      ⟨some 20, (.move (.tmp 5)), 3, none⟩,
      ⟨some 21, (.indexAddr 72 (.tmp 19) (.tmp 20)), 0, none⟩,
      ⟨some 22, (.fieldAddr 159 (.tmp 21) 1), 0, none⟩,
      ⟨some 23, (.load 82 (.tmp 22)), 82, none⟩,
      ⟨some 24, (.move (.tmp 1)), 3, none⟩,
      ⟨some 25, (.call { callee := (.value (.func 178)), args := #[(.tmp 23), (.tmp 24)], argTypes := #[82, 3] }), 3, none⟩,
      ⟨some 1, (.assign (.tmp 25)), 3, none⟩])
    (.rgn [] [⟨some 26, (.move (.tmp 0)), 72, none⟩,
      ⟨some 27, (.move (.tmp 5)), 3, none⟩,
      ⟨some 28, (.indexAddr 72 (.tmp 26) (.tmp 27)), 0, none⟩,
      ⟨some 29, (.fieldAddr 159 (.tmp 28) 2), 0, none⟩,
      ⟨some 30, (.load 25 (.tmp 29)), 25, none⟩,
      ⟨some 31, (.move (.tmp 1)), 3, none⟩,
      ⟨some 32, (.call { callee := (.value (.func 24)), args := #[(.tmp 30), (.tmp 31)], argTypes := #[25, 3] }), 3, none⟩,
      ⟨some 1, (.assign (.tmp 32)), 3, none⟩]))))) : Round Try.prog 34 [] mtx 159 3 body l.length (l.flatMap c159_ooo) k := by
  subst hb
  intro St w0 bs g cap j w T hnd hbs hj hI0 t0 t1 t5
  have hd : deepL (l.flatMap c159_ooo) = true := deep_flat dp159 l
  have hI0 : Inv Try.prog St mtx 159 l.length (l.flatMap c159_ooo) k (.slice (some ⟨g, 0, none⟩) l.length cap) bs w0 (j * 3 + 0) w := hI0
  have t1 : T 1 = some (.int .i64 (k + (cntP (l.flatMap c159_ooo) (j * 3 + 0) : Int))) := t1
  have q0 : (l.flatMap c159_ooo)[j * 3 + 0]? = some (.int .i64 ((l[j]).1)) := (flat_at zc159_ooo hj (by decide)).trans rfl
  have b0 := cnt_bd q0 h1
  rw [show cntV (.int .i64 ((l[j]).1)) = 1 from rfl] at b0
  have x0 : k + (cntP (l.flatMap c159_ooo) (j * 3 + 0) : Int) + 1 = k + (cntP (l.flatMap c159_ooo) (j * 3 + 1) : Int) := cnt_s1 (k := k) q0 rfl
  have n0 : 0 ≤ k + (cntP (l.flatMap c159_ooo) (j * 3 + 0) : Int) := cnt_nn h0
  have q1 : (l.flatMap c159_ooo)[j * 3 + 1]? = some (.own 25 ((l[j]).2.1).length (((l[j]).2.1).flatMap c25_o)) := (flat_at zc159_ooo hj (by decide)).trans rfl
  have b1 := cnt_bd q1 h1
  have n1 : 0 ≤ k + (cntP (l.flatMap c159_ooo) (j * 3 + 1) : Int) := cnt_nn h0
  have q2 : (l.flatMap c159_ooo)[j * 3 + 2]? = some (.own 3 ((l[j]).2.2).length (((l[j]).2.2).flatMap ci64)) := (flat_at zc159_ooo hj (by decide)).trans rfl
  have b2 := cnt_bd q2 h1
  have n2 : 0 ≤ k + (cntP (l.flatMap c159_ooo) (j * 3 + 2) : Int) := cnt_nn h0
  obtain ⟨u0, c0, f0, hI1⟩ := hI0.int' hd hnd q0
  refine ms_seq (ms_rgn (mo_move t0 (mo_move t5 (mo_move t1 (mo_ia tbOk rfl rfl rfl hj (mo_fa tbOk rfl rfl rfl (mo_store tbOk rfl rfl rfl rfl c0 f0 rfl (mo_nil ?_))))))))
  generalize hw1 : World.setCell _ _ _ = w1 at hI1 ⊢
  refine ms_seq (ms_rgn (mo_move t1 (mo_add rfl (by omega) (by unfold mB at b0; omega) (mo_asg rfl (mo_nil ?_)))))
  rw [x0]
  have k1 := m_laws_markIntSS ((l[j]).2.1) (k + (cntP (l.flatMap c159_ooo) (j * 3 + 1) : Int)) n1 b1
  obtain ⟨u1, c1, d1⟩ := hI1.own' hd hnd hbs q1 k1
  have d1 : Calls Try.prog 178 #[u1, .int .i64 (k + (cntP (l.flatMap c159_ooo) (j * 3 + 1) : Int))] w1 (fun e' w' => e' = .returned (.int .i64 (k + (cntP (l.flatMap c159_ooo) (j * 3 + 2) : Int))) ∧ Inv Try.prog St mtx 159 l.length (l.flatMap c159_ooo) k (.slice (some ⟨g, 0, none⟩) l.length cap) bs w0 (j * 3 + 2) w') := d1
  refine ms_seq (ms_rgn (mo_move t0 (mo_move t5 (mo_ia tbOk rfl rfl rfl hj (mo_fa tbOk rfl rfl rfl (mo_load tbOk rfl rfl rfl c1 (mo_move rfl (mo_call (lit_hb lit178) (args2 rfl rfl) (d1.mono ?_)))))))))
  rintro e1 w2 ⟨rfl, hI2⟩
  refine ⟨_, rfl, mo_asg rfl (mo_nil ?_)⟩
  have k2 := m_laws_markIntS ((l[j]).2.2) (k + (cntP (l.flatMap c159_ooo) (j * 3 + 2) : Int)) n2 b2
  obtain ⟨u2, c2, d2⟩ := hI2.own' hd hnd hbs q2 k2
  have d2 : Calls Try.prog 24 #[u2, .int .i64 (k + (cntP (l.flatMap c159_ooo) (j * 3 + 2) : Int))] w2 (fun e' w' => e' = .returned (.int .i64 (k + (cntP (l.flatMap c159_ooo) (j * 3 + 3) : Int))) ∧ Inv Try.prog St mtx 159 l.length (l.flatMap c159_ooo) k (.slice (some ⟨g, 0, none⟩) l.length cap) bs w0 (j * 3 + 3) w') := d2
  refine ms_rgn (mo_move t0 (mo_move t5 (mo_ia tbOk rfl rfl rfl hj (mo_fa tbOk rfl rfl rfl (mo_load tbOk rfl rfl rfl c2 (mo_move rfl (mo_call (lit_hb lit24) (args2 rfl rfl) (d2.mono ?_))))))))
  rintro e2 w3 ⟨rfl, hI3⟩
  refine ⟨_, rfl, mo_asg rfl (mo_nil ?_)⟩
  exact ⟨rfl, t0, rfl, t5, hI3⟩
theorem m_laws_markCountedRelationS (l : List (Int × (List (List Int)) × (List Int))) (k : Int) (h0 : 0 ≤ k) (h1 : k + cntVs (l.flatMap c159_ooo) ≤ mB) : MarkAt Try.prog 138 (.own 159 l.length (l.flatMap c159_ooo)) k (.own 159 l.length (mkVs mtx (l.flatMap c159_ooo) k)) (k + cntVs (l.flatMap c159_ooo)) :=
  mark_slice tbOk (r := 33) (ty := 72) (it := 3) (bt := 4) lit138 (by decide) rfl (flat_len zc159_ooo l) (by decide) (r_laws_markCountedRelationS l k h0 h1 rfl)
def laws_markCountedRelationS (x : List (Int × (List (List Int)) × (List Int))) (k : Int) : Option ((List (Int × (List (List Int)) × (List Int))) × Int) := chk (0 ≤ k ∧ k + (ce72 x : Int) ≤ mB) (some (me72 x k, k + ce72 x))
theorem laws_markCountedRelationS_e {x : List (Int × (List (List Int)) × (List Int))} {k : Int} (h0 : 0 ≤ k) (h1 : k + (ce72 x : Int) ≤ mB) : laws_markCountedRelationS x k = some (me72 x k, k + ce72 x) := chk_pos ⟨h0, h1⟩
theorem laws_markCountedRelationS_m {x : List (Int × (List (List Int)) × (List Int))} {k : Int} {r : (List (Int × (List (List Int)) × (List Int))) × Int} (h : laws_markCountedRelationS x k = some r) : MarkAt Try.prog 138 (.own 159 x.length (x.flatMap c159_ooo)) k (.own 159 r.1.length (r.1.flatMap c159_ooo)) r.2 := by
  obtain ⟨⟨h0, h1⟩, h⟩ := chk_some h
  have hr := Option.some.inj h
  subst hr
  have hx := cntVs_flat (f := c159_ooo) (cnt := ce159) hc159 x
  have e := m_laws_markCountedRelationS x k h0 (by rw [hx]; exact h1)
  rw [mkVs_flat (f := c159_ooo) (cnt := ce159) (mk := me159) hm159 hc159, hx] at e
  show MarkAt Try.prog 138 _ k (.own 159 (mkL ce159 me159 x k).length ((mkL ce159 me159 x k).flatMap c159_ooo)) (k + (cntL ce159 x : Int))
  rw [mkL_length]
  exact e
def ce74 (x : ((List ((List UInt8) × (Int × (List (List Int)))))) × (List ((Int × (List ((List UInt8) × (List Int))) × (List Int)) × (Int × (List (List Int)) × (List Int)))) × (List (Int × (List (List Int)) × (List Int)))) : Nat := (ce33 x.1) + (ce71 x.2.1) + (ce72 x.2.2)
def me74 (x : ((List ((List UInt8) × (Int × (List (List Int)))))) × (List ((Int × (List ((List UInt8) × (List Int))) × (List Int)) × (Int × (List (List Int)) × (List Int)))) × (List (Int × (List (List Int)) × (List Int)))) (k : Int) : ((List ((List UInt8) × (Int × (List (List Int)))))) × (List ((Int × (List ((List UInt8) × (List Int))) × (List Int)) × (Int × (List (List Int)) × (List Int)))) × (List (Int × (List (List Int)) × (List Int))) := (me33 x.1 (k), me71 x.2.1 (k + ((ce33 x.1 : Nat) : Int)), me72 x.2.2 (k + ((ce33 x.1 : Nat) : Int) + ((ce71 x.2.1 : Nat) : Int)))
theorem hm74 (x : ((List ((List UInt8) × (Int × (List (List Int)))))) × (List ((Int × (List ((List UInt8) × (List Int))) × (List Int)) × (Int × (List (List Int)) × (List Int)))) × (List (Int × (List (List Int)) × (List Int)))) (k : Int) : mkVs mtx (c74_oooooooooooooo x) k = c74_oooooooooooooo (me74 x k) := by
  have h : mkVs mtx [.own 208 x.1.length (x.1.flatMap c208_oo), .own 161 x.2.1.length (x.2.1.flatMap c161_oooooo), .own 159 x.2.2.length (x.2.2.flatMap c159_ooo)] k = _ := (mkc (mk_own hm208 hc208 _ _) (cnt_own hc208 _) (mkc (mk_own hm161 hc161 _ _) (cnt_own hc161 _) (mkc (mk_own hm159 hc159 _ _) (cnt_own hc159 _) (show mkVs mtx [] _ = [] from rfl))))
  refine h.trans ?_
  simp only [c74_oooooooooooooo, me74, ce74, c33_ooo, ce31, ce33, ce71, ce72, me31, me33, me71, me72, Int.add_assoc, ← Int.natCast_add, Nat.add_assoc, Int.natCast_add]
theorem hc74 (x : ((List ((List UInt8) × (Int × (List (List Int)))))) × (List ((Int × (List ((List UInt8) × (List Int))) × (List Int)) × (Int × (List (List Int)) × (List Int)))) × (List (Int × (List (List Int)) × (List Int)))) : cntVs (c74_oooooooooooooo x) = ce74 x := by
  have h : cntVs [.own 208 x.1.length (x.1.flatMap c208_oo), .own 161 x.2.1.length (x.2.1.flatMap c161_oooooo), .own 159 x.2.2.length (x.2.2.flatMap c159_ooo)] = _ := (cntc (cnt_own hc208 _) (cntc (cnt_own hc161 _) (cntc (cnt_own hc159 _) (show cntVs [] = 0 from rfl))))
  refine (show cntVs (c74_oooooooooooooo x) = _ from h).trans ?_
  simp only [ce74, c33_ooo, ce31, ce33, ce71, ce72, me31, me33, me71, me72, Nat.add_assoc, Nat.add_zero]
theorem dp74 (x : ((List ((List UInt8) × (Int × (List (List Int)))))) × (List ((Int × (List ((List UInt8) × (List Int))) × (List Int)) × (Int × (List (List Int)) × (List Int)))) × (List (Int × (List (List Int)) × (List Int)))) : deepL (c74_oooooooooooooo x) = true := (dpc (dpo dp208 _) (dpc (dpo dp161 _) (dpc (dpo dp159 _) rfl)))
def cs74 (x : ((List ((List UInt8) × (Int × (List (List Int)))))) × (List ((Int × (List ((List UInt8) × (List Int))) × (List Int)) × (Int × (List (List Int)) × (List Int)))) × (List (Int × (List (List Int)) × (List Int)))) : Nat := cs33 x.1 + ce71 x.2.1 + ce72 x.2.2
def ms74 (x : ((List ((List UInt8) × (Int × (List (List Int)))))) × (List ((Int × (List ((List UInt8) × (List Int))) × (List Int)) × (Int × (List (List Int)) × (List Int)))) × (List (Int × (List (List Int)) × (List Int)))) (k : Int) : ((List ((List UInt8) × (Int × (List (List Int)))))) × (List ((Int × (List ((List UInt8) × (List Int))) × (List Int)) × (Int × (List (List Int)) × (List Int)))) × (List (Int × (List (List Int)) × (List Int))) := (ms33 x.1 (k), me71 x.2.1 (k + ((cs33 x.1 : Nat) : Int)), me72 x.2.2 (k + ((cs33 x.1 : Nat) : Int) + ((ce71 x.2.1 : Nat) : Int)))
theorem hs74 (x : ((List ((List UInt8) × (Int × (List (List Int)))))) × (List ((Int × (List ((List UInt8) × (List Int))) × (List Int)) × (Int × (List (List Int)) × (List Int)))) × (List (Int × (List (List Int)) × (List Int)))) (k : Int) : mkA mtx (c74_oooooooooooooo x) k = c74_oooooooooooooo (ms74 x k) := by
  have h : mkA mtx [.own 208 x.1.length (x.1.flatMap c208_oo), .own 161 x.2.1.length (x.2.1.flatMap c161_oooooo), .own 159 x.2.2.length (x.2.2.flatMap c159_ooo)] k = _ := (mkao hm208 hc208 _ (mkao hm161 hc161 _ (mkao hm159 hc159 _ (show mkA mtx [] _ = [] from rfl))))
  refine h.trans ?_
  simp only [c74_oooooooooooooo, ms74, cs74, c33_ooo, ce31, ce71, ce72, cs33, me31, me71, me72, ms33, Int.add_assoc, ← Int.natCast_add, Nat.add_assoc, Int.natCast_add]
theorem hz74 (x : ((List ((List UInt8) × (Int × (List (List Int)))))) × (List ((Int × (List ((List UInt8) × (List Int))) × (List Int)) × (Int × (List (List Int)) × (List Int)))) × (List (Int × (List (List Int)) × (List Int)))) : cntA (c74_oooooooooooooo x) = cs74 x := by
  have h : cntA [.own 208 x.1.length (x.1.flatMap c208_oo), .own 161 x.2.1.length (x.2.1.flatMap c161_oooooo), .own 159 x.2.2.length (x.2.2.flatMap c159_ooo)] = _ := (cntao hc208 _ (cntao hc161 _ (cntao hc159 _ (show cntA [] = 0 from rfl))))
  refine (show cntA (c74_oooooooooooooo x) = _ from h).trans ?_
  simp only [cs74, c33_ooo, ce31, ce71, ce72, cs33, me31, me71, me72, ms33, Nat.add_assoc, Nat.add_zero, Nat.zero_add]
theorem m_laws_markNotifier (x : ((List ((List UInt8) × (Int × (List (List Int)))))) × (List ((Int × (List ((List UInt8) × (List Int))) × (List Int)) × (Int × (List (List Int)) × (List Int)))) × (List (Int × (List (List Int)) × (List Int)))) (k : Int) (h0 : 0 ≤ k) (h1 : k + cntA (c74_oooooooooooooo x) ≤ mB) : MarkAt Try.prog 53 (.agg (c74_oooooooooooooo x)) k (.agg (mkA mtx (c74_oooooooooooooo x) k)) (k + cntA (c74_oooooooooooooo x)) := by
  refine ⟨lit_hb lit53, fun w0 St v bs hO hnd hbs => ?_⟩
  obtain ⟨us, rfl, hO⟩ := hO
  refine calls_ms (rs := []) (vs := [.agg us.toArray, .int .i64 k]) lit53 (Nat.le_of_ble_eq_true rfl) ?_
  have hd : deepL (c74_oooooooooooooo x) = true := dp74 x
  have hI0 := InvA.start (mt := mtx) (k := k) (t := 74) hO hd hbs
  refine ms_seq (ms_rgn (mo_box rfl (mo_asgc (mo_nil ?_))))
  have q0 : ((c74_oooooooooooooo x).drop 0).take 1 = c33_ooo x.1 := rfl
  obtain ⟨u0, l0, c0, d0⟩ := hI0.agg hd hnd hbs (Nat.le_of_ble_eq_true rfl) q0 (m_laws_markDatabase x.1 (k + (cntA ((c74_oooooooooooooo x).take 0) : Int)) (by omega) (cntA_bdp q0 h1))
  refine ms_seq (ms_rgn (mo_fa tbOk rfl rfl rfl (mo_loadA tbOk rfl l0 rfl c0 (mo_move (t1_0 (k := k) (n := cntA ((c74_oooooooooooooo x).take 0)) rfl) (mo_call (lit_hb lit22) (args2 rfl rfl) (d0.mono ?_))))))
  rintro e0 w1 ⟨rfl, hI1⟩
  refine ⟨_, rfl, mo_asg rfl (mo_nil ?_)⟩
  have q1 : (c74_oooooooooooooo x)[1]? = some (.own 161 x.2.1.length (x.2.1.flatMap c161_oooooo)) := rfl
  obtain ⟨u1, c1, d1⟩ := hI1.own hd hnd hbs q1 (m_laws_markViewS x.2.1 (k + (cntA ((c74_oooooooooooooo x).take 1) : Int)) (by omega) (cntA_bd q1 h1))
  refine ms_seq (ms_rgn (mo_fa tbOk rfl rfl rfl (mo_load tbOk rfl rfl rfl c1 (mo_move rfl (mo_call (lit_hb lit137) (args2 rfl rfl) (d1.mono ?_))))))
  rintro e1 w2 ⟨rfl, hI2⟩
  refine ⟨_, rfl, mo_asg rfl (mo_nil ?_)⟩
  have q2 : (c74_oooooooooooooo x)[2]? = some (.own 159 x.2.2.length (x.2.2.flatMap c159_ooo)) := rfl
  obtain ⟨u2, c2, d2⟩ := hI2.own hd hnd hbs q2 (m_laws_markCountedRelationS x.2.2 (k + (cntA ((c74_oooooooooooooo x).take 2) : Int)) (by omega) (cntA_bd q2 h1))
  refine ms_seq (ms_rgn (mo_fa tbOk rfl rfl rfl (mo_load tbOk rfl rfl rfl c2 (mo_move rfl (mo_call (lit_hb lit138) (args2 rfl rfl) (d2.mono ?_))))))
  rintro e2 w3 ⟨rfl, hI3⟩
  refine ⟨_, rfl, mo_asg rfl (mo_nil ?_)⟩
  obtain ⟨hx, hy⟩ := hI3.done (Nat.le_of_ble_eq_true rfl)
  refine ms_seq (ms_rgn (mo_move rfl (mo_asg rfl (mo_nil ?_))))
  exact ms_ret ⟨.inl rfl, _, rfl, rfl, ⟨us, rfl, hx⟩, hy⟩
def laws_markNotifier (x : ((List ((List UInt8) × (Int × (List (List Int)))))) × (List ((Int × (List ((List UInt8) × (List Int))) × (List Int)) × (Int × (List (List Int)) × (List Int)))) × (List (Int × (List (List Int)) × (List Int)))) (k : Int) : Option ((((List ((List UInt8) × (Int × (List (List Int)))))) × (List ((Int × (List ((List UInt8) × (List Int))) × (List Int)) × (Int × (List (List Int)) × (List Int)))) × (List (Int × (List (List Int)) × (List Int)))) × Int) := chk (0 ≤ k ∧ k + (cs74 x : Int) ≤ mB) (some (ms74 x k, k + cs74 x))
theorem laws_markNotifier_e {x : ((List ((List UInt8) × (Int × (List (List Int)))))) × (List ((Int × (List ((List UInt8) × (List Int))) × (List Int)) × (Int × (List (List Int)) × (List Int)))) × (List (Int × (List (List Int)) × (List Int)))} {k : Int} (h0 : 0 ≤ k) (h1 : k + (cs74 x : Int) ≤ mB) : laws_markNotifier x k = some (ms74 x k, k + cs74 x) := chk_pos ⟨h0, h1⟩
theorem laws_markNotifier_m {x : ((List ((List UInt8) × (Int × (List (List Int)))))) × (List ((Int × (List ((List UInt8) × (List Int))) × (List Int)) × (Int × (List (List Int)) × (List Int)))) × (List (Int × (List (List Int)) × (List Int)))} {k : Int} {r : (((List ((List UInt8) × (Int × (List (List Int)))))) × (List ((Int × (List ((List UInt8) × (List Int))) × (List Int)) × (Int × (List (List Int)) × (List Int)))) × (List (Int × (List (List Int)) × (List Int)))) × Int} (h : laws_markNotifier x k = some r) : MarkAt Try.prog 53 (.agg (c74_oooooooooooooo x)) k (.agg (c74_oooooooooooooo r.1)) r.2 := by
  obtain ⟨⟨h0, h1⟩, h⟩ := chk_some h
  have hr := Option.some.inj h
  subst hr
  have e := m_laws_markNotifier x k h0 (by rw [hz74]; exact h1)
  rw [hs74, hz74] at e
  exact e
end Go.Proofs.Ytkcfahfladikkaa
