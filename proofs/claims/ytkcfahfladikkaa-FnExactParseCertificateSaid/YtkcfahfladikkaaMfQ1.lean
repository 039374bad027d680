/-
  What the functions that mark do: contracts and typed functions, printed by genmark.py. No conditions.
-/
import Derived.Test.YtkcfahfladikkaaMxQ1
namespace Go.Proofs.Ytkcfahfladikkaa
open Go.RowKit
set_option linter.unusedVariables false
set_option linter.unusedSimpArgs false
set_option maxRecDepth 100000
def c25_d (x : List Int) : List V := [dL ci64 x]
theorem zc25_d (x : List Int) : (c25_d x).length = 1 := rfl
theorem ec25_d (x : List Int) : erL (c25_d x) = c25_d x := (erc (erD eci64 _) rfl)
def c25_o (x : List Int) : List V := [oL 3 ci64 x]
theorem zc25_o (x : List Int) : (c25_o x).length = 1 := rfl
theorem ec25_o (x : List Int) : erL (c25_o x) = c25_d x := (erc (erO eci64 _) rfl)
abbrev Y214 := Int × Int
def c215_ (x : Y214) : List V := [nI x.1, nI x.2]
theorem zc215_ (x : Y214) : (c215_ x).length = 2 := rfl
theorem ec215_ (x : Y214) : erL (c215_ x) = c215_ x := (erc rfl (erc rfl rfl))
def c57_d (x : List Y214) : List V := [dL c215_ x]
theorem zc57_d (x : List Y214) : (c57_d x).length = 1 := rfl
theorem ec57_d (x : List Y214) : erL (c57_d x) = c57_d x := (erc (erD ec215_ _) rfl)
def c57_o (x : List Y214) : List V := [oL 215 c215_ x]
theorem zc57_o (x : List Y214) : (c57_o x).length = 1 := rfl
theorem ec57_o (x : List Y214) : erL (c57_o x) = c57_d x := (erc (erO ec215_ _) rfl)
abbrev Y58 := (List Int) × (List Y214) × (List Int) × Int × Int
def c59_ddd (x : Y58) : List V := [dL ci64 x.1, dL c215_ x.2.1, dL ci64 x.2.2.1, nI x.2.2.2.1, nI x.2.2.2.2]
theorem zc59_ddd (x : Y58) : (c59_ddd x).length = 5 := rfl
theorem ec59_ddd (x : Y58) : erL (c59_ddd x) = c59_ddd x := (erc (erD eci64 _) (erc (erD ec215_ _) (erc (erD eci64 _) (erc rfl (erc rfl rfl)))))
def c59_ooo (x : Y58) : List V := [oL 3 ci64 x.1, oL 215 c215_ x.2.1, oL 3 ci64 x.2.2.1, nI x.2.2.2.1, nI x.2.2.2.2]
theorem zc59_ooo (x : Y58) : (c59_ooo x).length = 5 := rfl
theorem ec59_ooo (x : Y58) : erL (c59_ooo x) = c59_ddd x := (erc (erO eci64 _) (erc (erO ec215_ _) (erc (erO eci64 _) (erc rfl (erc rfl rfl)))))
def ce25 (x : List Int) : Nat := cntL oneI x
def me25 (x : List Int) (k : Int) : List Int := mkL oneI markI x k
theorem hm25 (x : List Int) (k : Int) : mkVs mtx (c25_o x) k = c25_o (me25 x k) := by
  unfold c25_o me25
  exact mkc (mk_own hmI hcI x k) (cnt_own hcI x) rfl
theorem hc25 (x : List Int) : cntVs (c25_o x) = ce25 x := by
  unfold c25_o ce25
  exact cntc (cnt_own hcI x) rfl
theorem dp25 (x : List Int) : deepL (c25_o x) = true := dpc (dpo (fun _ => rfl) x) rfl
theorem r_laws_markIntS (l : List Int) (k : Int) (h0 : 0 ≤ k) (h1 : k + cntVs (l.flatMap ci64) ≤ mB) {body : LC} (hb : body = (.seq (.rgn [] [LL 12 (.move (.tmp 0)) 25,
      LL 13 (.move (.tmp 5)) 3,
      LL 14 (.move (.tmp 1)) 3,
      LL 15 (.indexAddr 25 (.tmp 12) (.tmp 13)) 0,
      ⟨none, (.store 3 (.tmp 15) (.tmp 14)), 0, none⟩])
    (.rgn [] [LL 16 (.move (.tmp 1)) 3,
      LL 17 (.binOp .add 3 (.tmp 16) (.const (.int .i64 1)) 3) 3,
      LL 1 (.assign (.tmp 17)) 3]))) : Round Try.prog 19 [] mtx 3 1 body l.length (l.flatMap ci64) k := by
  subst hb
  intro St w0 bs g cap j w T hnd hbs hj hI0 t0 t1 t5
  have hd : deepL (l.flatMap ci64) = true := deep_flat (fun _ => rfl) l
  have hI0 : Inv Try.prog St mtx 3 l.length (l.flatMap ci64) k (.slice (some ⟨g, 0, none⟩) l.length cap) bs w0 (j * 1 + 0) w := hI0
  have t1 : T 1 = some (.int .i64 (k + (cntP (l.flatMap ci64) (j * 1 + 0) : Int))) := t1
  have q0 : (l.flatMap ci64)[j * 1 + 0]? = some (nI (l[j])) := (flat_at zci64 hj (by decide)).trans rfl
  have b0 := cnt_bd q0 h1
  rw [show cntV (nI (l[j])) = 1 from rfl] at b0
  have x0 : k + (cntP (l.flatMap ci64) (j * 1 + 0) : Int) + 1 = k + (cntP (l.flatMap ci64) (j * 1 + 1) : Int) := cnt_s1 (k := k) q0 rfl
  have n0 : 0 ≤ k + (cntP (l.flatMap ci64) (j * 1 + 0) : Int) := cnt_nn h0
  obtain ⟨u0, c0, f0, hI1⟩ := hI0.int' hd hnd q0
  refine ms_seq (ms_rgn (mo_move t0 (mo_move t5 (mo_move t1 (mo_ia tbOk rfl rfl rfl hj (mo_store tbOk rfl rfl rfl rfl c0 f0 rfl (mo_nil ?_)))))))
  generalize hw1 : World.setCell _ _ _ = w1 at hI1 ⊢
  refine ms_rgn (mo_move t1 (mo_add rfl (by omega) (by unfold mB at b0; omega) (mo_asg rfl (mo_nil ?_))))
  rw [x0]
  exact ⟨rfl, t0, rfl, t5, hI1⟩
theorem m_laws_markIntS (l : List Int) (k : Int) (h0 : 0 ≤ k) (h1 : k + cntVs (l.flatMap ci64) ≤ mB) : MarkAt Try.prog 24 (.own 3 l.length (l.flatMap ci64)) k (.own 3 l.length (mkVs mtx (l.flatMap ci64) k)) (k + cntVs (l.flatMap ci64)) :=
  mark_slice tbOk (r := 18) (ty := 25) (it := 3) (bt := 4) lit24 (by decide) rfl (flat_len zci64 l) (by decide) (r_laws_markIntS l k h0 h1 rfl)
def laws_markIntS (x : List Int) (k : Int) : Option ((List Int) × Int) := chk (0 ≤ k ∧ k + (ce25 x : Int) ≤ mB) (some (me25 x k, k + ce25 x))
theorem laws_markIntS_e {x : List Int} {k : Int} (h0 : 0 ≤ k) (h1 : k + (ce25 x : Int) ≤ mB) : laws_markIntS x k = some (me25 x k, k + ce25 x) := chk_pos ⟨h0, h1⟩
theorem laws_markIntS_m {x : List Int} {k : Int} {r : (List Int) × Int} (h : laws_markIntS x k = some r) : MarkAt Try.prog 24 (oL 3 ci64 x) k (oL 3 ci64 r.1) r.2 := by
  obtain ⟨⟨h0, h1⟩, h⟩ := chk_some h
  have hr := Option.some.inj h
  subst hr
  have hx := cntVs_flat (f := ci64) (cnt := oneI) hcI x
  have e := m_laws_markIntS x k h0 (by rw [hx]; exact h1)
  rw [mkVs_flat (f := ci64) (cnt := oneI) (mk := markI) hmI hcI, hx] at e
  show MarkAt Try.prog 24 _ k (.own 3 (mkL oneI markI x k).length ((mkL oneI markI x k).flatMap ci64)) (k + (cntL oneI x : Int))
  rw [mkL_length]
  exact e
def ce215 (x : Y214) : Nat := (1) + (1)
def me215 (x : Y214) (k : Int) : Y214 := ((k), (k + ((1 : Nat) : Int)))
theorem hm215 (x : Y214) (k : Int) : mkVs mtx (c215_ x) k = c215_ (me215 x k) := by
  have h : mkVs mtx [nI x.1, nI x.2] k = _ := (mkc (n := 1) (c' := V.int .i64 _) rfl rfl (mkc (n := 1) (c' := V.int .i64 _) rfl rfl (show mkVs mtx [] _ = [] from rfl)))
  refine h.trans ?_
  simp only [c215_, me215, ce215, Int.add_assoc, ← Int.natCast_add, Nat.add_assoc, Int.natCast_add]
theorem hc215 (x : Y214) : cntVs (c215_ x) = ce215 x := by
  have h : cntVs [nI x.1, nI x.2] = _ := (cntc (n := 1) rfl (cntc (n := 1) rfl (show cntVs [] = 0 from rfl)))
  refine (show cntVs (c215_ x) = _ from h).trans ?_
  simp only [ce215, Nat.add_assoc, Nat.add_zero]
theorem dp215 (x : Y214) : deepL (c215_ x) = true := (dpc rfl (dpc rfl rfl))
def ce57 (x : List Y214) : Nat := cntL ce215 x
def me57 (x : List Y214) (k : Int) : List Y214 := mkL ce215 me215 x k
theorem hm57 (x : List Y214) (k : Int) : mkVs mtx (c57_o x) k = c57_o (me57 x k) := by
  unfold c57_o me57
  exact mkc (mk_own hm215 hc215 x k) (cnt_own hc215 x) rfl
theorem hc57 (x : List Y214) : cntVs (c57_o x) = ce57 x := by
  unfold c57_o ce57
  exact cntc (cnt_own hc215 x) rfl
theorem dp57 (x : List Y214) : deepL (c57_o x) = true := dpc (dpo dp215 x) rfl
theorem r_laws_markRationalS (l : List Y214) (k : Int) (h0 : 0 ≤ k) (h1 : k + cntVs (l.flatMap c215_) ≤ mB) {body : LC} (hb : body = (.seq (.rgn [] [LL 12 (.move (.tmp 0)) 57,
      LL 13 (.move (.tmp 5)) 3,
      LL 14 (.move (.tmp 1)) 3,
      LL 15 (.indexAddr 57 (.tmp 12) (.tmp 13)) 0,
      LL 16 (.fieldAddr 215 (.tmp 15) 0) 0,
      ⟨none, (.store 3 (.tmp 16) (.tmp 14)), 0, none⟩])
    (.seq (.rgn [] [LL 17 (.move (.tmp 1)) 3,
      LL 18 (.binOp .add 3 (.tmp 17) (.const (.int .i64 1)) 3) 3,
      LL 1 (.assign (.tmp 18)) 3])
    (.seq (.rgn [] [LL 19 (.move (.tmp 0)) 57,
      LL 20 (.move (.tmp 5)) 3,
      LL 21 (.move (.tmp 1)) 3,
      LL 22 (.indexAddr 57 (.tmp 19) (.tmp 20)) 0,
      LL 23 (.fieldAddr 215 (.tmp 22) 1) 0,
      ⟨none, (.store 3 (.tmp 23) (.tmp 21)), 0, none⟩])
    (.rgn [] [LL 24 (.move (.tmp 1)) 3,
      LL 25 (.binOp .add 3 (.tmp 24) (.const (.int .i64 1)) 3) 3,
      LL 1 (.assign (.tmp 25)) 3]))))) : Round Try.prog 27 [] mtx 215 2 body l.length (l.flatMap c215_) k := by
  subst hb
  intro St w0 bs g cap j w T hnd hbs hj hI0 t0 t1 t5
  have hd : deepL (l.flatMap c215_) = true := deep_flat dp215 l
  have hI0 : Inv Try.prog St mtx 215 l.length (l.flatMap c215_) k (.slice (some ⟨g, 0, none⟩) l.length cap) bs w0 (j * 2 + 0) w := hI0
  have t1 : T 1 = some (.int .i64 (k + (cntP (l.flatMap c215_) (j * 2 + 0) : Int))) := t1
  have q0 : (l.flatMap c215_)[j * 2 + 0]? = some (nI ((l[j]).1)) := (flat_at zc215_ hj (by decide)).trans rfl
  have b0 := cnt_bd q0 h1
  rw [show cntV (nI ((l[j]).1)) = 1 from rfl] at b0
  have x0 : k + (cntP (l.flatMap c215_) (j * 2 + 0) : Int) + 1 = k + (cntP (l.flatMap c215_) (j * 2 + 1) : Int) := cnt_s1 (k := k) q0 rfl
  have n0 : 0 ≤ k + (cntP (l.flatMap c215_) (j * 2 + 0) : Int) := cnt_nn h0
  have q1 : (l.flatMap c215_)[j * 2 + 1]? = some (nI ((l[j]).2)) := (flat_at zc215_ hj (by decide)).trans rfl
  have b1 := cnt_bd q1 h1
  rw [show cntV (nI ((l[j]).2)) = 1 from rfl] at b1
  have x1 : k + (cntP (l.flatMap c215_) (j * 2 + 1) : Int) + 1 = k + (cntP (l.flatMap c215_) (j * 2 + 2) : Int) := cnt_s1 (k := k) q1 rfl
  have n1 : 0 ≤ k + (cntP (l.flatMap c215_) (j * 2 + 1) : Int) := cnt_nn h0
  obtain ⟨u0, c0, f0, hI1⟩ := hI0.int' hd hnd q0
  refine ms_seq (ms_rgn (mo_move t0 (mo_move t5 (mo_move t1 (mo_ia tbOk rfl rfl rfl hj (mo_fa tbOk rfl rfl rfl (mo_store tbOk rfl rfl rfl rfl c0 f0 rfl (mo_nil ?_))))))))
  generalize hw1 : World.setCell _ _ _ = w1 at hI1 ⊢
  refine ms_seq (ms_rgn (mo_move t1 (mo_add rfl (by omega) (by unfold mB at b0; omega) (mo_asg rfl (mo_nil ?_)))))
  rw [x0]
  obtain ⟨u1, c1, f1, hI2⟩ := hI1.int' hd hnd q1
  refine ms_seq (ms_rgn (mo_move t0 (mo_move t5 (mo_move rfl (mo_ia tbOk rfl rfl rfl hj (mo_fa tbOk rfl rfl rfl (mo_store tbOk rfl rfl rfl rfl c1 f1 rfl (mo_nil ?_))))))))
  generalize hw2 : World.setCell _ _ _ = w2 at hI2 ⊢
  refine ms_rgn (mo_move rfl (mo_add rfl (by omega) (by unfold mB at b1; omega) (mo_asg rfl (mo_nil ?_))))
  rw [x1]
  exact ⟨rfl, t0, rfl, t5, hI2⟩
theorem m_laws_markRationalS (l : List Y214) (k : Int) (h0 : 0 ≤ k) (h1 : k + cntVs (l.flatMap c215_) ≤ mB) : MarkAt Try.prog 106 (.own 215 l.length (l.flatMap c215_)) k (.own 215 l.length (mkVs mtx (l.flatMap c215_) k)) (k + cntVs (l.flatMap c215_)) :=
  mark_slice tbOk (r := 26) (ty := 57) (it := 3) (bt := 4) lit106 (by decide) rfl (flat_len zc215_ l) (by decide) (r_laws_markRationalS l k h0 h1 rfl)
def laws_markRationalS (x : List Y214) (k : Int) : Option ((List Y214) × Int) := chk (0 ≤ k ∧ k + (ce57 x : Int) ≤ mB) (some (me57 x k, k + ce57 x))
theorem laws_markRationalS_e {x : List Y214} {k : Int} (h0 : 0 ≤ k) (h1 : k + (ce57 x : Int) ≤ mB) : laws_markRationalS x k = some (me57 x k, k + ce57 x) := chk_pos ⟨h0, h1⟩
theorem laws_markRationalS_m {x : List Y214} {k : Int} {r : (List Y214) × Int} (h : laws_markRationalS x k = some r) : MarkAt Try.prog 106 (oL 215 c215_ x) k (oL 215 c215_ r.1) r.2 := by
  obtain ⟨⟨h0, h1⟩, h⟩ := chk_some h
  have hr := Option.some.inj h
  subst hr
  have hx := cntVs_flat (f := c215_) (cnt := ce215) hc215 x
  have e := m_laws_markRationalS x k h0 (by rw [hx]; exact h1)
  rw [mkVs_flat (f := c215_) (cnt := ce215) (mk := me215) hm215 hc215, hx] at e
  show MarkAt Try.prog 106 _ k (.own 215 (mkL ce215 me215 x k).length ((mkL ce215 me215 x k).flatMap c215_)) (k + (cntL ce215 x : Int))
  rw [mkL_length]
  exact e
def ce59 (x : Y58) : Nat := (ce25 x.1) + (ce57 x.2.1) + (ce25 x.2.2.1) + (1) + (1)
def me59 (x : Y58) (k : Int) : Y58 := (me25 x.1 (k), me57 x.2.1 (k + ((ce25 x.1 : Nat) : Int)), me25 x.2.2.1 (k + ((ce25 x.1 : Nat) : Int) + ((ce57 x.2.1 : Nat) : Int)), (k + ((ce25 x.1 : Nat) : Int) + ((ce57 x.2.1 : Nat) : Int) + ((ce25 x.2.2.1 : Nat) : Int)), (k + ((ce25 x.1 : Nat) : Int) + ((ce57 x.2.1 : Nat) : Int) + ((ce25 x.2.2.1 : Nat) : Int) + ((1 : Nat) : Int)))
theorem hm59 (x : Y58) (k : Int) : mkVs mtx (c59_ooo x) k = c59_ooo (me59 x k) := by
  have h : mkVs mtx [oL 3 ci64 x.1, oL 215 c215_ x.2.1, oL 3 ci64 x.2.2.1, nI x.2.2.2.1, nI x.2.2.2.2] k = _ := (mkc (mk_own hmI hcI _ _) (cnt_own hcI _) (mkc (mk_own hm215 hc215 _ _) (cnt_own hc215 _) (mkc (mk_own hmI hcI _ _) (cnt_own hcI _) (mkc (n := 1) (c' := V.int .i64 _) rfl rfl (mkc (n := 1) (c' := V.int .i64 _) rfl rfl (show mkVs mtx [] _ = [] from rfl))))))
  refine h.trans ?_
  simp only [c59_ooo, me59, ce59, ce25, ce57, me25, me57, Int.add_assoc, ← Int.natCast_add, Nat.add_assoc, Int.natCast_add]
theorem hc59 (x : Y58) : cntVs (c59_ooo x) = ce59 x := by
  have h : cntVs [oL 3 ci64 x.1, oL 215 c215_ x.2.1, oL 3 ci64 x.2.2.1, nI x.2.2.2.1, nI x.2.2.2.2] = _ := (cntc (cnt_own hcI _) (cntc (cnt_own hc215 _) (cntc (cnt_own hcI _) (cntc (n := 1) rfl (cntc (n := 1) rfl (show cntVs [] = 0 from rfl))))))
  refine (show cntVs (c59_ooo x) = _ from h).trans ?_
  simp only [ce59, ce25, ce57, me25, me57, Nat.add_assoc, Nat.add_zero]
theorem dp59 (x : Y58) : deepL (c59_ooo x) = true := (dpc (dpo (fun _ => rfl) _) (dpc (dpo dp215 _) (dpc (dpo (fun _ => rfl) _) (dpc rfl (dpc rfl rfl)))))
def cs59 (x : Y58) : Nat := ce25 x.1 + ce57 x.2.1 + ce25 x.2.2.1
def ms59 (x : Y58) (k : Int) : Y58 := (me25 x.1 (k), me57 x.2.1 (k + ((ce25 x.1 : Nat) : Int)), me25 x.2.2.1 (k + ((ce25 x.1 : Nat) : Int) + ((ce57 x.2.1 : Nat) : Int)), x.2.2.2.1, x.2.2.2.2)
theorem hs59 (x : Y58) (k : Int) : mkA mtx (c59_ooo x) k = c59_ooo (ms59 x k) := by
  have h : mkA mtx [oL 3 ci64 x.1, oL 215 c215_ x.2.1, oL 3 ci64 x.2.2.1, nI x.2.2.2.1, nI x.2.2.2.2] k = _ := (mkao hmI hcI _ (mkao hm215 hc215 _ (mkao hmI hcI _ (mka (fun _ _ => rfl) (mka (fun _ _ => rfl) (show mkA mtx [] _ = [] from rfl))))))
  refine h.trans ?_
  simp only [c59_ooo, ms59, cs59, ce25, ce57, me25, me57, Int.add_assoc, ← Int.natCast_add, Nat.add_assoc, Int.natCast_add]
theorem hz59 (x : Y58) : cntA (c59_ooo x) = cs59 x := by
  have h : cntA [oL 3 ci64 x.1, oL 215 c215_ x.2.1, oL 3 ci64 x.2.2.1, nI x.2.2.2.1, nI x.2.2.2.2] = _ := (cntao hcI _ (cntao hc215 _ (cntao hcI _ (cnta (fun _ => rfl) (cnta (fun _ => rfl) (show cntA [] = 0 from rfl))))))
  refine (show cntA (c59_ooo x) = _ from h).trans ?_
  simp only [cs59, ce25, ce57, me25, me57, Nat.add_assoc, Nat.add_zero, Nat.zero_add]
theorem m_laws_markCertificate (x : Y58) (k : Int) (h0 : 0 ≤ k) (h1 : k + cntA (c59_ooo x) ≤ mB) : MarkAt Try.prog 36 (.agg (c59_ooo x)) k (.agg (mkA mtx (c59_ooo x) k)) (k + cntA (c59_ooo x)) := by
  refine ⟨lit_hb lit36, fun w0 St v bs hO hnd hbs => ?_⟩
  obtain ⟨us, rfl, hO⟩ := hO
  refine calls_ms (rs := []) (vs := [.agg us.toArray, .int .i64 k]) lit36 (Nat.le_of_ble_eq_true rfl) ?_
  have hd : deepL (c59_ooo x) = true := dp59 x
  have hI0 := InvA.start (mt := mtx) (k := k) (t := 59) hO hd hbs
  refine ms_seq (ms_rgn (mo_box rfl (mo_asgc (mo_nil ?_))))
  have q0 : (c59_ooo x)[0]? = some (oL 3 ci64 x.1) := rfl
  obtain ⟨u0, c0, d0⟩ := hI0.own hd hnd hbs q0 (m_laws_markIntS x.1 (k + (cntA ((c59_ooo x).take 0) : Int)) (by omega) (cntA_bd q0 h1))
  refine ms_seq (ms_rgn (mo_fa tbOk rfl rfl rfl (mo_load tbOk rfl rfl rfl c0 (mo_move (t1_0 (k := k) (n := cntA ((c59_ooo x).take 0)) rfl) (mo_call (lit_hb lit24) (args2 rfl rfl) (d0.mono ?_))))))
  rintro e0 w1 ⟨rfl, hI1⟩
  refine ⟨_, rfl, mo_asg rfl (mo_nil ?_)⟩
  have q1 : (c59_ooo x)[1]? = some (oL 215 c215_ x.2.1) := rfl
  obtain ⟨u1, c1, d1⟩ := hI1.own hd hnd hbs q1 (m_laws_markRationalS x.2.1 (k + (cntA ((c59_ooo x).take 1) : Int)) (by omega) (cntA_bd q1 h1))
  refine ms_seq (ms_rgn (mo_fa tbOk rfl rfl rfl (mo_load tbOk rfl rfl rfl c1 (mo_move rfl (mo_call (lit_hb lit106) (args2 rfl rfl) (d1.mono ?_))))))
  rintro e1 w2 ⟨rfl, hI2⟩
  refine ⟨_, rfl, mo_asg rfl (mo_nil ?_)⟩
  have q2 : (c59_ooo x)[2]? = some (oL 3 ci64 x.2.2.1) := rfl
  obtain ⟨u2, c2, d2⟩ := hI2.own hd hnd hbs q2 (m_laws_markIntS x.2.2.1 (k + (cntA ((c59_ooo x).take 2) : Int)) (by omega) (cntA_bd q2 h1))
  refine ms_seq (ms_rgn (mo_fa tbOk rfl rfl rfl (mo_load tbOk rfl rfl rfl c2 (mo_move rfl (mo_call (lit_hb lit24) (args2 rfl rfl) (d2.mono ?_))))))
  rintro e2 w3 ⟨rfl, hI3⟩
  refine ⟨_, rfl, mo_asg rfl (mo_nil ?_)⟩
  have hI4 := hI3.skip (c := nI x.2.2.2.1) rfl (fun _ => rfl)
  have hI5 := hI4.skip (c := nI x.2.2.2.2) rfl (fun _ => rfl)
  obtain ⟨hx, hy⟩ := hI5.done (Nat.le_of_ble_eq_true rfl)
  refine ms_seq (ms_rgn (mo_move rfl (mo_asg rfl (mo_nil ?_))))
  exact ms_ret ⟨.inl rfl, _, rfl, rfl, ⟨us, rfl, hx⟩, hy⟩
def laws_markCertificate (x : Y58) (k : Int) : Option (Y58 × Int) := chk (0 ≤ k ∧ k + (cs59 x : Int) ≤ mB) (some (ms59 x k, k + cs59 x))
theorem laws_markCertificate_e {x : Y58} {k : Int} (h0 : 0 ≤ k) (h1 : k + (cs59 x : Int) ≤ mB) : laws_markCertificate x k = some (ms59 x k, k + cs59 x) := chk_pos ⟨h0, h1⟩
theorem laws_markCertificate_m {x : Y58} {k : Int} {r : Y58 × Int} (h : laws_markCertificate x k = some r) : MarkAt Try.prog 36 (.agg (c59_ooo x)) k (.agg (c59_ooo r.1)) r.2 := by
  obtain ⟨⟨h0, h1⟩, h⟩ := chk_some h
  have hr := Option.some.inj h
  subst hr
  have e := m_laws_markCertificate x k h0 (by rw [hz59]; exact h1)
  rw [hs59, hz59] at e
  exact e
end Go.Proofs.Ytkcfahfladikkaa
