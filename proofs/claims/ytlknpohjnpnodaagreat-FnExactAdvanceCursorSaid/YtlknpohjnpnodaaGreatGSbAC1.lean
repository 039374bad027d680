/-
  Functions of the program as typed functions, printed by gen.py, and that the program's functions do what they say. No conditions.
-/
import Derived.Test.YtlknpohjnpnodaaGreatGSAC1
namespace Go.Proofs.YtlknpohjnpnodaaGreat
open Go.RowKit
set_option linter.unusedVariables false
set_option maxRecDepth 100000
set_option maxHeartbeats 1000000
def impl_NextJoinRow_J1  : Option ((List Int) × Bool) := some (([] : List Int), false)
def impl_NextJoinRow_B2 (a3 : List Int) (v1 : Y40 × Int × Bool) (rec : Int → Option (Sum (Unit) ((List Int) × Bool))) (y2 : Int) : Option (Sum (Unit) ((List Int) × Bool)) := cond (decide (y2 < (List.length (enumP 0 v1.1.2) : Int))) (obind (geti (enumP 0 v1.1.2) y2) fun e8 => cond ((List.length a3 : Int) == 0) (chk (okJ (v1.1.2) ([Sum.inl e8]) [] = true) (some (.inr (e8.2, true)))) (obind (impl_CompareRows e8.2 a3) fun v12 => cond (decide (0 < v12)) (chk (okJ (v1.1.2) ([Sum.inl e8]) [] = true) (some (.inr (e8.2, true)))) (rec (IntKind.i64.wrap (y2 + 1))))) (some (.inl ()))
def impl_NextJoinRow (a0 : List Y113) (a1 : Y29) (a2 : List Int) (a3 : List Int) : Option ((List Int) × Bool) := obind (impl_LeapfrogJoin a0 a1 a2) fun v1 => cond v1.2.2 (obind (loopF (impl_NextJoinRow_B2 a3 v1) fz 0) fun o2 => (match o2 with
  | .inl _ => (impl_NextJoinRow_J1 )
  | .inr r => some r)) (impl_NextJoinRow_J1 )
theorem impl_NextJoinRow_s {a0 : List Y113} {a1 : Y29} {a2 : List Int} {a3 : List Int} {r : (List Int) × Bool} (h : impl_NextJoinRow a0 a1 a2 a3 = some r) : SoundAt Tryz.prog 35 [.agg [dL c114_dd a0], .agg (c30_ddd a1), dL ci64 a2, dL ci64 a3] (.tup [oL 3 ci64 r.1, .bool r.2]) := by
 unfold impl_NextJoinRow at h
 refine st lit35 rfl (rn 1 rfl (rs (sp 3 rfl (?_))))
 obtain ⟨v1, g2, h⟩ := ob_some h
 refine qC (qa rfl (erg (erc (erD ec114_dd _) rfl)) (qa rfl (erg (erc rfl (erc (erD ec109_d _) (erc (erD eci64 _) rfl)))) (qa rfl (erD eci64 _) eran))) (impl_LeapfrogJoin_s g2) (sp 8 rfl (evn (ls_seq_k fun K3 hK3 => qk [3, 10, 12] rfl (ls_hg (gSb (f := c27_o) (l := v1.1.2) (q := 900001) (b := 10) [nI v1.1.1] [] rfl rfl rfl (fun _ => rfl) ?_)))))
 intro U us1 hU
 refine kp [(3, dL ci64 a3), (10, .box [nI v1.1.1, oL 27 (pE c27_o U) (enumP 0 v1.1.2)]), (12, .bool v1.2.2), (900001, .gh us1 (List.map (fun x => tokC (c27_o x)) v1.1.2))] rfl rfl (rn 1 rfl ?_)
 have kJ1 : impl_NextJoinRow_J1 = some r → Jn K3 [(900001, .gh us1 (List.map (fun x => tokC (c27_o x)) v1.1.2))] := by
  intro h σ' hk
  unfold impl_NextJoinRow_J1 at h
  exact hK3 _ (lh hk rfl (rn 1 rfl (ls_ret ((by cases h; exact ⟨.inl rfl, rfl⟩)))))
 rcases cond_some h with ⟨g4, h⟩ | ⟨g4, h⟩
 ·refine qT rfl g4 (rn 1 rfl ?_)
  obtain ⟨o2, hl, hr2⟩ := ob_some h
  have kXB2 : (.inl ()) = o2 → Jn K3 [(900001, .gh us1 (List.map (fun x => tokC (c27_o x)) v1.1.2))] := by
   intro h σ' hk
   subst h
   replace h := hr2
   try dsimp only at h
   exact kJ1 h _ ⟨hk.1, trivial⟩
  refine ls_rec (fun (y2 : Int) => [(3, dL ci64 a3), (25, dL (pE c27_o U) (enumP 0 v1.1.2)), (26, nI (List.length (enumP 0 v1.1.2) : Int)), (27, nI y2), (900001, .gh us1 (List.map (fun x => tokC (c27_o x)) v1.1.2))]) _ _ _ _ hl (okr rfl) (fun _ => rfl) ?_
  rintro m y2 N h hN
  unfold impl_NextJoinRow_B2 at h
  refine rn 1 rfl (ls_seq_k fun K5 hK5 => ?_)
  rcases cond_some h with ⟨g6, h⟩ | ⟨g6, h⟩
  ·refine qT rfl g6 (ls_skip (hK5 _ (ls_seq_k fun K7 hK7 => ls_blk (rs ?_))))
   obtain ⟨e8, g9, h⟩ := ob_some h
   refine qI rfl (zpE zc27_o) g9 (sp 2 rfl (evn (rs (sp 4 rfl (?_)))))
   rcases cond_some h with ⟨g10, h⟩ | ⟨g10, h⟩
   ·refine qg 34 g10 rfl (sp 5 rfl (evn (qT rfl rfl (qk [14, 900001] rfl ?_))))
    obtain ⟨g11, h⟩ := chk_some h
    exact ls_join1 (f := c27_o) (s := 14) (q := 900001) (l := v1.1.2) (U := U) (L := [Sum.inl e8]) rfl rfl rfl (by decide) (join_pin (fun _ => rfl) rfl) hU g11 rfl rfl (kp [(14, oL 3 ci64 e8.2)] rfl rfl (rn 1 rfl (ls_ret ((by cases h; cases hr2; exact ⟨.inl rfl, rfl⟩)))))
   ·refine qg 34 g10 rfl (sp 2 rfl (?_))
    obtain ⟨v12, g13, h⟩ := ob_some h
    refine oGR rfl rfl (qC (qa rfl (erP eci64 eci64 _) (qa rfl (erD eci64 _) eran)) (impl_CompareRows_s g13) (sp 2 rfl (evn ?_)))
    rcases cond_some h with ⟨g14, h⟩ | ⟨g14, h⟩
    ·refine qT rfl g14 (qk [14, 900001] rfl ?_)
     obtain ⟨g15, h⟩ := chk_some h
     exact ls_join1 (f := c27_o) (s := 14) (q := 900001) (l := v1.1.2) (U := U) (L := [Sum.inl e8]) rfl rfl rfl (by decide) (join_pin (fun _ => rfl) rfl) hU g15 rfl rfl (kp [(14, oL 3 ci64 e8.2)] rfl rfl (rn 1 rfl (ls_ret ((by cases h; cases hr2; exact ⟨.inl rfl, rfl⟩)))))
    ·exact qF rfl g14 (ls_skip (hK7 _ (rg (sp 2 rfl (evn (hN _ _ h (okr rfl)))))))
  ·exact qF rfl g6 (ls_exit (kXB2 (Option.some.inj h) _ (okr rfl)))
 ·exact qF rfl g4 (ls_skip (kJ1 h _ (okr rfl)))
def impl_AdvanceCursor (a0 : Y25) (a1 : Y31) : Option (Y31 × (List Int) × Bool) := obind (impl_copyInts a1.2.1) fun v1 => obind (impl_copyInts a1.2.2.1) fun v3 => obind (impl_copyQuery a1.2.2.2) fun v5 => obind (impl_SnapshotAt a0 a1.1) fun v7 => cond (!v7.2) (some ((a1.1, v1, v3, v5), ([] : List Int), false)) (obind (impl_NextJoinRow v7.1 a1.2.2.2 a1.2.1 a1.2.2.1) fun v11 => cond (!v11.2) (some ((a1.1, v1, v3, v5), ([] : List Int), false)) (obind (impl_copyInts v11.1) fun v15 => some ((a1.1, v1, v15, v5), v11.1, true)))
theorem impl_AdvanceCursor_s {a0 : Y25} {a1 : Y31} {r : Y31 × (List Int) × Bool} (h : impl_AdvanceCursor a0 a1 = some r) : SoundAt Tryz.prog 7 [.agg (c26_dddd a0), .agg (c32_ddddd a1)] (.tup [.agg (c32_ooooo r.1), oL 3 ci64 r.2.1, .bool r.2.2]) := by
 unfold impl_AdvanceCursor at h
 refine st lit7 rfl (rn 1 rfl (rd (by kernel_rfl) (sd 4 rfl (?_))))
 obtain ⟨v1, g2, h⟩ := ob_some h
 refine ed rfl (qC (qa rfl (erD eci64 _) eran) (impl_copyInts_s g2) (sd 2 rfl (?_)))
 obtain ⟨v3, g4, h⟩ := ob_some h
 refine ed rfl (qC (qa rfl (erD eci64 _) eran) (impl_copyInts_s g4) (sd 2 rfl (?_)))
 obtain ⟨v5, g6, h⟩ := ob_some h
 refine ed rfl (qC (qa rfl (erg (erc rfl (erc (erD ec109_d _) (erc (erD eci64 _) rfl)))) eran) (impl_copyQuery_s g6) (sd 3 rfl (evdn (rs (sp 3 rfl (?_))))))
 obtain ⟨v7, g8, h⟩ := ob_some h
 refine qC (qa rfl (erg (erc rfl (erc (erD ec77_ddd _) rfl))) (qs rfl eran)) (impl_SnapshotAt_s g8) (sp 6 rfl (evn (ls_seq_k fun K9 hK9 => rn 1 rfl ?_)))
 rcases cond_some h with ⟨g10, h⟩ | ⟨g10, h⟩
 ·exact qT rfl g10 (rn 1 rfl (qk [4, 5, 6] rfl (ls_ret ((by cases h; exact ⟨.inl rfl, rfl⟩)))))
 ·refine qF rfl g10 (ls_skip (hK9 _ (rs (sp 7 rfl (?_)))))
  obtain ⟨v11, g12, h⟩ := ob_some h
  refine qC (qa rfl (erg (erc (erD ec114_oo _) rfl)) (qa rfl (erg (erc rfl (erc (erD ec109_d _) (erc (erD eci64 _) rfl)))) (qa rfl (erD eci64 _) (qa rfl (erD eci64 _) eran)))) (impl_NextJoinRow_s g12) (sp 5 rfl (evn (ls_seq_k fun K13 hK13 => rn 1 rfl ?_)))
  rcases cond_some h with ⟨g14, h⟩ | ⟨g14, h⟩
  ·exact qT rfl g14 (rn 1 rfl (ls_ret ((by cases h; exact ⟨.inl rfl, rfl⟩))))
  ·refine qF rfl g14 (ls_skip (hK13 _ (rs (sp 1 rfl (?_)))))
   obtain ⟨v15, g16, h⟩ := ob_some h
   exact qC (qa rfl (erD eci64 _) eran) (impl_copyInts_s g16) (sp 2 rfl (evn (rn 1 rfl (qk [4, 5, 6] rfl (ls_ret ((by cases h; exact ⟨.inl rfl, rfl⟩)))))))
def spec_l7Copy_B1 (a0 : Y29) (rec : ((List Y108) × Int) → Option ((List Y108))) (s : (List Y108) × Int) : Option ((List Y108)) := match s with
  | (y1, y2) => cond (decide (y2 < (List.length a0.2.1 : Int))) (obind (geti a0.2.1 y2) fun e7 => obind (geti a0.2.1 y2) fun e9 => chk (List.length ([] : List Int) + List.length e9.2 ≤ lim) (chk (List.length y1 + List.length ([(e7.1, ([] : List Int) ++ e9.2)]) ≤ lim) (rec ((y1 ++ ([(e7.1, ([] : List Int) ++ e9.2)])), (IntKind.i64.wrap (y2 + 1)))))) (some y1)
def spec_l7Copy (a0 : Y29) : Option (Y29) := chk (List.length ([] : List Int) + List.length a0.2.2 ≤ lim) (obind (loopF (spec_l7Copy_B1 a0) fz (([] : List Y108), 0)) fun z3 => some (a0.1, z3, ([] : List Int) ++ a0.2.2))
theorem spec_l7Copy_s {a0 : Y29} {r : Y29} (h : spec_l7Copy a0 = some r) : SoundAt Tryz.prog 70 [.agg (c30_ddd a0)] (.agg (c30_ooo r)) := by
 unfold spec_l7Copy at h
 refine st lit70 rfl (rn 1 rfl (rd (by kernel_rfl) (sd 2 rfl (ed rfl (qBs ci64 [] rfl rfl rfl zci64 (sd 2 rfl (?_)))))))
 obtain ⟨g1, h⟩ := chk_some h
 refine ed rfl (qA ci64 ([] : List Int) a0.2.2 rfl rfl (flat_len zci64 a0.2.2) (map_dg (fun _ => rfl) _) g1 (sd 3 rfl (evdn (ls_seq_k fun K2 hK2 => rn 1 rfl ?_))))
 obtain ⟨o1, hl, hr1⟩ := ob_some h
 have kXB1 : ∀ {z3 : List Y108}, z3 = o1 → Jn K2 [(2, .box [nI 0, oL 109 c109_o [], oL 3 ci64 []]), (3, .box [nI a0.1, oL 109 c109_o z3, oL 3 ci64 (([] : List Int) ++ a0.2.2)])] := by
  intro z3 h σ' hk
  subst h
  replace h := hr1
  try dsimp only at h
  exact hK2 _ (lh hk rfl (rn 1 rfl (ls_ret ((by cases h; exact ⟨.inl rfl, rfl⟩)))))
 refine ls_rec (fun (s : (List Y108) × Int) => match s with | (y1, y2) => [(1, .box [nI a0.1, dL c109_d a0.2.1, dL ci64 a0.2.2]), (2, .box [nI 0, oL 109 c109_o [], oL 3 ci64 []]), (3, .box [nI a0.1, oL 109 c109_o y1, oL 3 ci64 (([] : List Int) ++ a0.2.2)]), (4, nI y2)]) _ _ _ _ hl (okr rfl) (fun _ => rfl) ?_
 rintro m ⟨y1, y2⟩ N h hN
 unfold spec_l7Copy_B1 at h
 dsimp only at h
 refine ls_seq_k fun K4 hK4 => rn 1 rfl ?_
 rcases cond_some h with ⟨g5, h⟩ | ⟨g5, h⟩
 ·refine qT rfl g5 (ls_skip (hK4 _ (ls_seq_k fun K6 hK6 => ls_blk (rgd (by kernel_rfl) (sd 5 rfl (?_))))))
  obtain ⟨e7, g8, h⟩ := ob_some h
  refine ed rfl (qI rfl zc109_d g8 (sd 2 rfl (ed rfl (qBs ci64 [] rfl rfl rfl zci64 (sd 3 rfl (?_))))))
  obtain ⟨e9, g10, h⟩ := ob_some h
  refine ed rfl (qI rfl zc109_d g10 (sd 2 rfl (?_)))
  obtain ⟨g11, h⟩ := chk_some h
  refine ed rfl (qA ci64 ([] : List Int) e9.2 rfl rfl (flat_len zci64 e9.2) (map_dg (fun _ => rfl) _) g11 (sd 1 rfl (ed rfl (qBs c109_o [(e7.1, ([] : List Int) ++ e9.2)] rfl rfl rfl zc109_o (?_)))))
  obtain ⟨g12, h⟩ := chk_some h
  exact ed rfl (qA c109_o y1 ([(e7.1, ([] : List Int) ++ e9.2)]) rfl rfl (flat_len zc109_o ([(e7.1, ([] : List Int) ++ e9.2)])) rfl g12 (sd 2 rfl (evdn (hK6 _ (rg (sp 3 rfl (evn (hN _ _ h (okr rfl)))))))))
 ·exact qF rfl g5 (ls_exit (kXB1 (Option.some.inj h) _ (okr rfl)))
def spec_l33Cursor (a0 : Y31) : Option (Y31) := chk (List.length ([] : List Int) + List.length a0.2.1 ≤ lim) (chk (List.length ([] : List Int) + List.length a0.2.2.1 ≤ lim) (obind (spec_l7Copy a0.2.2.2) fun v3 => some (a0.1, ([] : List Int) ++ a0.2.1, ([] : List Int) ++ a0.2.2.1, v3)))
theorem spec_l33Cursor_s {a0 : Y31} {r : Y31} (h : spec_l33Cursor a0 = some r) : SoundAt Tryz.prog 36 [.agg (c32_ddddd a0)] (.agg (c32_ooooo r)) := by
 unfold spec_l33Cursor at h
 refine st lit36 rfl (rn 1 rfl (rd (by kernel_rfl) (sd 2 rfl (ed rfl (qBs ci64 [] rfl rfl rfl zci64 (sd 2 rfl (?_)))))))
 obtain ⟨g1, h⟩ := chk_some h
 refine ed rfl (qA ci64 ([] : List Int) a0.2.1 rfl rfl (flat_len zci64 a0.2.1) (map_dg (fun _ => rfl) _) g1 (ed rfl (qBs ci64 [] rfl rfl rfl zci64 (sd 2 rfl (?_)))))
 obtain ⟨g2, h⟩ := chk_some h
 refine ed rfl (qA ci64 ([] : List Int) a0.2.2.1 rfl rfl (flat_len zci64 a0.2.2.1) (map_dg (fun _ => rfl) _) g2 (sd 2 rfl (?_)))
 obtain ⟨v3, g4, h⟩ := ob_some h
 exact ed rfl (qC (qa rfl (erg (erc rfl (erc (erD ec109_d _) (erc (erD eci64 _) rfl)))) eran) (spec_l7Copy_s g4) (sd 2 rfl (evdn (ls_ret ((by cases h; exact ⟨.inl rfl, rfl⟩))))))
def spec_l1In_J1 (x2 : Bool) : Option (Bool) := some x2
def spec_l1In (a0 : Int) (a1 : Int) (a2 : Int) : Option (Bool) := cond (decide (a1 ≤ a0)) (spec_l1In_J1 (decide (a0 ≤ a2))) (spec_l1In_J1 false)
theorem spec_l1In_s {a0 : Int} {a1 : Int} {a2 : Int} {r : Bool} (h : spec_l1In a0 a1 a2 = some r) : SoundAt Tryz.prog 42 [nI a0, nI a1, nI a2] (.bool r) := by
 unfold spec_l1In at h
 refine st lit42 rfl (rn 1 rfl (rk fun K1 hK1 => ?_))
 have kJ1 : ∀ {x2 : Bool}, spec_l1In_J1 x2 = some r → Jn K1 [(6, .bool x2)] := by
  intro x2 h σ' hk
  unfold spec_l1In_J1 at h
  exact hK1 _ (lh hk rfl (ls_ret ((by cases h; exact ⟨.inl rfl, rfl⟩))))
 refine sp 4 rfl (?_)
 rcases cond_some h with ⟨g3, h⟩ | ⟨g3, h⟩
 ·exact qg 10 g3 rfl (sp 5 rfl (evn (kJ1 h _ (okr rfl))))
 ·exact qg 10 g3 rfl (sp 5 rfl (evn (kJ1 h _ (okr rfl))))
def spec_IsValidName_B1 (a0 : List UInt8) (rec : Int → Option (Sum (Unit) (Bool))) (y1 : Int) : Option (Sum (Unit) (Bool)) := cond (decide (y1 < (List.length a0 : Int))) (obind (geti a0 y1) fun b5 => cond (decide ((UInt8.toNat b5 : Int) < 97)) (some (.inr false)) (obind (geti a0 y1) fun b8 => cond (decide (122 < (UInt8.toNat b8 : Int))) (some (.inr false)) (rec (IntKind.i64.wrap (y1 + 1))))) (some (.inl ()))
def spec_IsValidName (a0 : List UInt8) : Option (Bool) := obind (loopF (spec_IsValidName_B1 a0) fz 0) fun o1 => (match o1 with
  | .inl _ => (obind (spec_l1In (List.length a0 : Int) 1 4) fun v11 => some v11)
  | .inr r => some r)
theorem spec_IsValidName_s {a0 : List UInt8} {r : Bool} (h : spec_IsValidName a0 = some r) : SoundAt Tryz.prog 76 [.str a0] (.bool r) := by
 unfold spec_IsValidName at h
 refine st lit76 rfl (rn 1 rfl (ls_seq_k fun K1 hK1 => rn 1 rfl ?_))
 obtain ⟨o1, hl, hr1⟩ := ob_some h
 have kXB1 : (.inl ()) = o1 → Jn K1 [(0, .str a0)] := by
  intro h σ' hk
  subst h
  replace h := hr1
  try dsimp only at h
  refine hK1 _ (lh hk rfl (rs (sp 2 rfl (?_))))
  obtain ⟨v11, g12, h⟩ := ob_some h
  exact qC (qs rfl (qs rfl (qs rfl eran))) (spec_l1In_s g12) (sp 1 rfl (evn (ls_ret ((by cases h; exact ⟨.inl rfl, rfl⟩)))))
 refine ls_rec (fun (y1 : Int) => [(0, .str a0), (3, nI y1)]) _ _ _ _ hl (okr rfl) (fun _ => rfl) ?_
 rintro m y1 N h hN
 unfold spec_IsValidName_B1 at h
 refine ls_seq_k fun K2 hK2 => rn 1 rfl ?_
 rcases cond_some h with ⟨g3, h⟩ | ⟨g3, h⟩
 ·refine qT rfl g3 (ls_skip (hK2 _ (ls_seq_k fun K4 hK4 => ls_blk (rs (sp 2 rfl (?_))))))
  obtain ⟨b5, g6, h⟩ := ob_some h
  refine qX rfl g6 (sp 2 rfl (?_))
  rcases cond_some h with ⟨g7, h⟩ | ⟨g7, h⟩
  ·exact qg 14 g7 rfl (sp 5 rfl (evn (qT rfl rfl (rn 1 rfl (ls_ret ((by cases h; cases hr1; exact ⟨.inl rfl, rfl⟩)))))))
  ·refine qg 14 g7 rfl (sp 2 rfl (?_))
   obtain ⟨b8, g9, h⟩ := ob_some h
   refine oGR rfl rfl (qX rfl g9 (sp 2 rfl (evn ?_)))
   rcases cond_some h with ⟨g10, h⟩ | ⟨g10, h⟩
   ·exact qT rfl g10 (rn 1 rfl (qk [2] rfl (ls_ret ((by cases h; cases hr1; exact ⟨.inl rfl, rfl⟩)))))
   ·exact qF rfl g10 (ls_skip (hK4 _ (rg (sp 3 rfl (evn (hN _ _ h (okr rfl)))))))
 ·exact qF rfl g3 (ls_exit (kXB1 (Option.some.inj h) _ (okr rfl)))
def spec_CompareRows_B1 (a0 : List Int) (a1 : List Int) (rec : Int → Option (Sum (Unit) (Int))) (y1 : Int) : Option (Sum (Unit) (Int)) := cond (decide (y1 < (List.length a0 : Int))) (cond (decide (y1 < (List.length a1 : Int))) (obind (geti a0 y1) fun e7 => obind (geti a1 y1) fun e9 => cond (decide (e7 < e9)) (some (.inr (-1))) (obind (geti a0 y1) fun e12 => obind (geti a1 y1) fun e14 => cond (decide (e14 < e12)) (some (.inr 1)) (rec (IntKind.i64.wrap (y1 + 1))))) (some (.inl ()))) (some (.inl ()))
def spec_CompareRows (a0 : List Int) (a1 : List Int) : Option (Int) := obind (loopF (spec_CompareRows_B1 a0 a1) fz 0) fun o1 => (match o1 with
  | .inl _ => (cond (decide ((List.length a0 : Int) < (List.length a1 : Int))) (some (-1)) (cond (decide ((List.length a1 : Int) < (List.length a0 : Int))) (some 1) (some 0)))
  | .inr r => some r)
theorem spec_CompareRows_s {a0 : List Int} {a1 : List Int} {r : Int} (h : spec_CompareRows a0 a1 = some r) : SoundAt Tryz.prog 73 [dL ci64 a0, dL ci64 a1] (nI r) := by
 unfold spec_CompareRows at h
 refine st lit73 rfl (rn 1 rfl (ls_seq_k fun K1 hK1 => rn 1 rfl ?_))
 obtain ⟨o1, hl, hr1⟩ := ob_some h
 have kXB1 : (.inl ()) = o1 → Jn K1 [(0, dL ci64 a0), (1, dL ci64 a1)] := by
  intro h σ' hk
  subst h
  replace h := hr1
  try dsimp only at h
  refine hK1 _ (lh hk rfl (ls_seq_k fun K17 hK17 => rn 1 rfl ?_))
  rcases cond_some h with ⟨g18, h⟩ | ⟨g18, h⟩
  ·exact qT rfl g18 (rn 1 rfl (ls_ret ((by cases h; exact ⟨.inl rfl, rfl⟩))))
  ·refine qF rfl g18 (ls_skip (hK17 _ (ls_seq_k fun K19 hK19 => rn 1 rfl ?_)))
   rcases cond_some h with ⟨g20, h⟩ | ⟨g20, h⟩
   ·exact qT rfl g20 (rn 1 rfl (ls_ret ((by cases h; exact ⟨.inl rfl, rfl⟩))))
   ·exact qF rfl g20 (ls_skip (hK19 _ (rn 1 rfl (ls_ret ((by cases h; exact ⟨.inl rfl, rfl⟩))))))
 refine ls_rec (fun (y1 : Int) => [(0, dL ci64 a0), (1, dL ci64 a1), (5, nI y1)]) _ _ _ _ hl (okr rfl) (fun _ => rfl) ?_
 rintro m y1 N h hN
 unfold spec_CompareRows_B1 at h
 refine ls_seq_k fun K2 hK2 => rs (sp 5 rfl (?_))
 rcases cond_some h with ⟨g3, h⟩ | ⟨g3, h⟩
 ·refine qg 10 g3 rfl (sp 5 rfl (evn ?_))
  rcases cond_some h with ⟨g4, h⟩ | ⟨g4, h⟩
  ·refine qT rfl g4 (ls_skip (hK2 _ (ls_seq_k fun K5 hK5 => ls_blk (ls_seq_k fun K6 hK6 => rd (by kernel_rfl) (sd 2 rfl (?_))))))
   obtain ⟨e7, g8, h⟩ := ob_some h
   refine ed rfl (qI rfl zci64 g8 (sd 3 rfl (?_)))
   obtain ⟨e9, g10, h⟩ := ob_some h
   refine ed rfl (qI rfl zci64 g10 (sd 2 rfl (evdn ?_)))
   rcases cond_some h with ⟨g11, h⟩ | ⟨g11, h⟩
   ·exact qT rfl g11 (rn 1 rfl (ls_ret ((by cases h; cases hr1; exact ⟨.inl rfl, rfl⟩))))
   ·refine qF rfl g11 (ls_skip (hK6 _ (rd (by kernel_rfl) (sd 2 rfl (?_)))))
    obtain ⟨e12, g13, h⟩ := ob_some h
    refine ed rfl (qI rfl zci64 g13 (sd 3 rfl (?_)))
    obtain ⟨e14, g15, h⟩ := ob_some h
    refine ed rfl (qI rfl zci64 g15 (sd 2 rfl (evdn (qk [0, 1, 5, 35] rfl ?_))))
    rcases cond_some h with ⟨g16, h⟩ | ⟨g16, h⟩
    ·exact qT rfl g16 (rn 1 rfl (ls_ret ((by cases h; cases hr1; exact ⟨.inl rfl, rfl⟩))))
    ·exact qF rfl g16 (ls_skip (hK5 _ (rg (sp 3 rfl (evn (hN _ _ h (okr rfl)))))))
  ·exact qF rfl g4 (ls_exit (kXB1 (Option.some.inj h) _ (okr rfl)))
 ·exact qg 10 g3 rfl (sp 5 rfl (evn (qF rfl rfl (ls_exit (kXB1 (Option.some.inj h) _ (okr rfl))))))
def spec_AreValidValues_B1 (a0 : List Int) (rec : Int → Option (Sum (Unit) (Bool))) (y1 : Int) : Option (Sum (Unit) (Bool)) := cond (decide (y1 < (List.length a0 : Int))) (obind (geti a0 y1) fun e5 => obind (spec_l1In e5 0 99) fun v7 => cond (!v7) (some (.inr false)) (rec (IntKind.i64.wrap (y1 + 1)))) (some (.inl ()))
def spec_AreValidValues (a0 : List Int) : Option (Bool) := obind (loopF (spec_AreValidValues_B1 a0) fz 0) fun o1 => (match o1 with
  | .inl _ => (some true)
  | .inr r => some r)
theorem spec_AreValidValues_s {a0 : List Int} {r : Bool} (h : spec_AreValidValues a0 = some r) : SoundAt Tryz.prog 116 [dL ci64 a0] (.bool r) := by
 unfold spec_AreValidValues at h
 refine st lit116 rfl (rn 1 rfl (ls_seq_k fun K1 hK1 => rn 1 rfl ?_))
 obtain ⟨o1, hl, hr1⟩ := ob_some h
 have kXB1 : (.inl ()) = o1 → Jn K1 [] := by
  intro h σ' hk
  subst h
  replace h := hr1
  try dsimp only at h
  exact hK1 _ (lh hk rfl (rn 1 rfl (ls_ret ((by cases h; exact ⟨.inl rfl, rfl⟩)))))
 refine ls_rec (fun (y1 : Int) => [(0, dL ci64 a0), (3, nI y1)]) _ _ _ _ hl (okr rfl) (fun _ => rfl) ?_
 rintro m y1 N h hN
 unfold spec_AreValidValues_B1 at h
 refine ls_seq_k fun K2 hK2 => rn 1 rfl ?_
 rcases cond_some h with ⟨g3, h⟩ | ⟨g3, h⟩
 ·refine qT rfl g3 (ls_skip (hK2 _ (ls_seq_k fun K4 hK4 => ls_blk (rs (sp 2 rfl (?_))))))
  obtain ⟨e5, g6, h⟩ := ob_some h
  refine qI rfl zci64 g6 (sp 1 rfl (?_))
  obtain ⟨v7, g8, h⟩ := ob_some h
  refine qC (qs rfl (qs rfl (qs rfl eran))) (spec_l1In_s g8) (sp 1 rfl (evn ?_))
  rcases cond_some h with ⟨g9, h⟩ | ⟨g9, h⟩
  ·exact qT rfl g9 (rn 1 rfl (ls_ret ((by cases h; cases hr1; exact ⟨.inl rfl, rfl⟩))))
  ·exact qF rfl g9 (ls_skip (hK4 _ (rg (sp 3 rfl (evn (hN _ _ h (okr rfl)))))))
 ·exact qF rfl g3 (ls_exit (kXB1 (Option.some.inj h) _ trivial))
def spec_IsValidRelation_J2 (rec : Int → Option (Sum (Unit) (Bool))) (y1 : Int) (x11 : Bool) : Option (Sum (Unit) (Bool)) := cond x11 (some (.inr false)) (rec (IntKind.i64.wrap (y1 + 1)))
def spec_IsValidRelation_B1 (a0 : Y40) (rec : Int → Option (Sum (Unit) (Bool))) (y1 : Int) : Option (Sum (Unit) (Bool)) := cond (decide (y1 < (List.length a0.2 : Int))) (obind (geti a0.2 y1) fun e13 => cond ((List.length e13 : Int) != a0.1) (spec_IsValidRelation_J2 rec y1 true) (obind (geti a0.2 y1) fun e16 => obind (spec_AreValidValues e16) fun v18 => cond (!v18) (spec_IsValidRelation_J2 rec y1 true) (cond (decide (0 < y1)) (obind (geti a0.2 (IntKind.i64.wrap (y1 - 1))) fun e22 => obind (geti a0.2 y1) fun e24 => obind (spec_CompareRows e22 e24) fun v26 => spec_IsValidRelation_J2 rec y1 (decide (0 ≤ v26))) (spec_IsValidRelation_J2 rec y1 false)))) (some (.inl ()))
def spec_IsValidRelation (a0 : Y40) : Option (Bool) := obind (spec_l1In a0.1 0 5) fun v2 => cond (!v2) (some false) (cond (decide (4000 < (List.length a0.2 : Int))) (some false) (obind (loopF (spec_IsValidRelation_B1 a0) fz 0) fun o1 => (match o1 with
  | .inl _ => (some true)
  | .inr r => some r)))
theorem spec_IsValidRelation_s {a0 : Y40} {r : Bool} (h : spec_IsValidRelation a0 = some r) : SoundAt Tryz.prog 77 [.agg (c41_dd a0)] (.bool r) := by
 unfold spec_IsValidRelation at h
 refine st lit77 rfl (rn 1 rfl (ls_seq_k fun K1 hK1 => rs (sp 2 rfl (?_))))
 obtain ⟨v2, g3, h⟩ := ob_some h
 refine qC (qs rfl (qs rfl (qs rfl eran))) (spec_l1In_s g3) (sp 2 rfl (?_))
 rcases cond_some h with ⟨g4, h⟩ | ⟨g4, h⟩
 ·exact qg 8 g4 rfl (sp 5 rfl (evn (qT rfl rfl (rn 1 rfl (ls_ret ((by cases h; exact ⟨.inl rfl, rfl⟩)))))))
 ·refine qg 8 g4 rfl (sp 5 rfl (evn ?_))
  rcases cond_some h with ⟨g5, h⟩ | ⟨g5, h⟩
  ·exact qT rfl g5 (rn 1 rfl (ls_ret ((by cases h; exact ⟨.inl rfl, rfl⟩))))
  ·refine qF rfl g5 (ls_skip (hK1 _ (qk [1] rfl (ls_seq_k fun K6 hK6 => rn 1 rfl ?_))))
   obtain ⟨o1, hl, hr1⟩ := ob_some h
   have kXB1 : (.inl ()) = o1 → Jn K6 [] := by
    intro h σ' hk
    subst h
    replace h := hr1
    try dsimp only at h
    exact hK6 _ (lh hk rfl (rn 1 rfl (ls_ret ((by cases h; exact ⟨.inl rfl, rfl⟩)))))
   refine ls_rec (fun (y1 : Int) => [(1, .box [nI a0.1, dL c27_d a0.2]), (3, nI y1)]) _ _ _ _ hl (okr rfl) (fun _ => rfl) ?_
   rintro m y1 N h hN
   unfold spec_IsValidRelation_B1 at h
   refine ls_seq_k fun K7 hK7 => rn 1 rfl ?_
   rcases cond_some h with ⟨g8, h⟩ | ⟨g8, h⟩
   ·refine qT rfl g8 (ls_skip (hK7 _ (ls_seq_k fun K9 hK9 => ls_blk (rdk (by kernel_rfl) fun K10 hK10 => ?_))))
    have kJ2 : ∀ {x11 : Bool}, spec_IsValidRelation_J2 (loopF (spec_IsValidRelation_B1 a0) m) y1 x11 = some o1 → Jn K10 [(1, .box [nI a0.1, dL c27_d a0.2]), (3, nI y1), (57, .bool x11)] := by
     intro x11 h σ' hk
     unfold spec_IsValidRelation_J2 at h
     refine hK10 _ (lh hk rfl ?_)
     rcases cond_some h with ⟨g12, h⟩ | ⟨g12, h⟩
     ·exact qT rfl g12 (rn 1 rfl (ls_ret ((by cases h; cases hr1; exact ⟨.inl rfl, rfl⟩))))
     ·exact qF rfl g12 (ls_skip (hK9 _ (rg (sp 3 rfl (evn (hN _ _ h (okr rfl)))))))
    refine sd 3 rfl (?_)
    obtain ⟨e13, g14, h⟩ := ob_some h
    refine ed rfl (qI rfl zc27_d g14 (sd 6 rfl (?_)))
    rcases cond_some h with ⟨g15, h⟩ | ⟨g15, h⟩
    ·exact qgd 30 g15 rfl (sd 27 rfl (evdn (kJ2 h _ (okr rfl))))
    ·refine qgd 30 g15 rfl (sd 3 rfl (?_))
     obtain ⟨e16, g17, h⟩ := ob_some h
     refine ed rfl (oGR rfl rfl (qI rfl zc27_d g17 (sd 1 rfl (?_))))
     obtain ⟨v18, g19, h⟩ := ob_some h
     refine ed rfl (oGR rfl rfl (qC (qa rfl (erD eci64 _) eran) (spec_AreValidValues_s g19) (sd 3 rfl (?_))))
     rcases cond_some h with ⟨g20, h⟩ | ⟨g20, h⟩
     ·exact qgd 39 g20 rfl (sd 18 rfl (evdn (kJ2 h _ (okr rfl))))
     ·refine qgd 39 g20 rfl (sd 3 rfl (?_))
      rcases cond_some h with ⟨g21, h⟩ | ⟨g21, h⟩
      ·refine qgd 42 g21 rfl (sd 4 rfl (?_))
       obtain ⟨e22, g23, h⟩ := ob_some h
       refine ed rfl (oGR rfl rfl (qI rfl zc27_d g23 (sd 4 rfl (?_))))
       obtain ⟨e24, g25, h⟩ := ob_some h
       refine ed rfl (oGR rfl rfl (qI rfl zc27_d g25 (sd 1 rfl (?_))))
       obtain ⟨v26, g27, h⟩ := ob_some h
       exact ed rfl (oGR rfl rfl (qC (qa rfl (erD eci64 _) (qa rfl (erD eci64 _) eran)) (spec_CompareRows_s g27) (sd 3 rfl (evdn (kJ2 h _ (okr rfl))))))
      ·exact qgd 42 g21 rfl (sd 15 rfl (evdn (kJ2 h _ (okr rfl))))
   ·exact qF rfl g8 (ls_exit (kXB1 (Option.some.inj h) _ trivial))
def spec_IsValidDatabase_J2 (rec : Int → Option (Sum (Unit) (Bool))) (y1 : Int) (x8 : Bool) : Option (Sum (Unit) (Bool)) := cond x8 (some (.inr false)) (rec (IntKind.i64.wrap (y1 + 1)))
def spec_IsValidDatabase_B1 (a0 : List Y113) (rec : Int → Option (Sum (Unit) (Bool))) (y1 : Int) : Option (Sum (Unit) (Bool)) := cond (decide (y1 < (List.length a0 : Int))) (obind (geti a0 y1) fun e5 => obind (spec_IsValidName e5.1) fun v10 => cond (!v10) (spec_IsValidDatabase_J2 rec y1 true) (cond (decide (0 < y1)) (obind (geti a0 (IntKind.i64.wrap (y1 - 1))) fun e14 => cond (!Op.bytesLess e14.1 e5.1) (spec_IsValidDatabase_J2 rec y1 true) (obind (spec_IsValidRelation e5.2) fun v17 => cond (!v17) (spec_IsValidDatabase_J2 rec y1 true) (cond (decide (16 < (List.length e5.2.2 : Int))) (spec_IsValidDatabase_J2 rec y1 true) (spec_IsValidDatabase_J2 rec y1 (decide (e5.2.1 < 1)))))) (obind (spec_IsValidRelation e5.2) fun v21 => cond (!v21) (spec_IsValidDatabase_J2 rec y1 true) (cond (decide (16 < (List.length e5.2.2 : Int))) (spec_IsValidDatabase_J2 rec y1 true) (spec_IsValidDatabase_J2 rec y1 (decide (e5.2.1 < 1))))))) (some (.inl ()))
def spec_IsValidDatabase (a0 : List Y113) : Option (Bool) := obind (loopF (spec_IsValidDatabase_B1 a0) fz 0) fun o1 => (match o1 with
  | .inl _ => (some (decide ((List.length a0 : Int) ≤ 6)))
  | .inr r => some r)
theorem spec_IsValidDatabase_s {a0 : List Y113} {r : Bool} (h : spec_IsValidDatabase a0 = some r) : SoundAt Tryz.prog 41 [.agg [dL c114_dd a0]] (.bool r) := by
 unfold spec_IsValidDatabase at h
 refine st lit41 rfl (rn 1 rfl (ls_seq_k fun K1 hK1 => rn 1 rfl ?_))
 obtain ⟨o1, hl, hr1⟩ := ob_some h
 have kXB1 : (.inl ()) = o1 → Jn K1 [(1, .box [dL c114_dd a0])] := by
  intro h σ' hk
  subst h
  replace h := hr1
  try dsimp only at h
  exact hK1 _ (lh hk rfl (rn 1 rfl (ls_ret ((by cases h; exact ⟨.inl rfl, rfl⟩)))))
 refine ls_rec (fun (y1 : Int) => [(1, .box [dL c114_dd a0]), (3, nI y1)]) _ _ _ _ hl (okr rfl) (fun _ => rfl) ?_
 rintro m y1 N h hN
 unfold spec_IsValidDatabase_B1 at h
 refine ls_seq_k fun K2 hK2 => rn 1 rfl ?_
 rcases cond_some h with ⟨g3, h⟩ | ⟨g3, h⟩
 ·refine qT rfl g3 (ls_skip (hK2 _ (ls_seq_k fun K4 hK4 => ls_blk (rs (sp 3 rfl (?_))))))
  obtain ⟨e5, g6, h⟩ := ob_some h
  refine qI rfl zc114_dd g6 (sp 3 rfl (evn (rdk (by kernel_rfl) fun K7 hK7 => ?_)))
  have kJ2 : ∀ {x8 : Bool}, spec_IsValidDatabase_J2 (loopF (spec_IsValidDatabase_B1 a0) m) y1 x8 = some o1 → Jn K7 [(1, .box [dL c114_dd a0]), (3, nI y1), (55, .bool x8)] := by
   intro x8 h σ' hk
   unfold spec_IsValidDatabase_J2 at h
   refine hK7 _ (lh hk rfl ?_)
   rcases cond_some h with ⟨g9, h⟩ | ⟨g9, h⟩
   ·exact qT rfl g9 (rn 1 rfl (ls_ret ((by cases h; cases hr1; exact ⟨.inl rfl, rfl⟩))))
   ·exact qF rfl g9 (ls_skip (hK4 _ (rg (sp 3 rfl (evn (hN _ _ h (okr rfl)))))))
  refine sd 2 rfl (?_)
  obtain ⟨v10, g11, h⟩ := ob_some h
  refine ed rfl (qC (qs rfl eran) (spec_IsValidName_s g11) (sd 2 rfl (?_)))
  rcases cond_some h with ⟨g12, h⟩ | ⟨g12, h⟩
  ·exact qgd 21 g12 rfl (sd 34 rfl (evdn (kJ2 h _ (okr rfl))))
  ·refine qgd 21 g12 rfl (sd 3 rfl (?_))
   rcases cond_some h with ⟨g13, h⟩ | ⟨g13, h⟩
   ·refine qgd 24 g13 rfl (sd 4 rfl (?_))
    obtain ⟨e14, g15, h⟩ := ob_some h
    refine ed rfl (oGR rfl rfl (qI rfl zc114_dd g15 (sd 8 rfl (?_))))
    rcases cond_some h with ⟨g16, h⟩ | ⟨g16, h⟩
    ·exact qgd 37 g16 rfl (sd 18 rfl (evdn (kJ2 h _ (okr rfl))))
    ·refine qgd 37 g16 rfl (sd 2 rfl (?_))
     obtain ⟨v17, g18, h⟩ := ob_some h
     refine ed rfl (oGR rfl rfl (qC (qa rfl (erg (erc rfl (erc (erD ec27_d _) rfl))) eran) (spec_IsValidRelation_s g18) (sd 3 rfl (?_))))
     rcases cond_some h with ⟨g19, h⟩ | ⟨g19, h⟩
     ·exact qgd 43 g19 rfl (sd 12 rfl (evdn (kJ2 h _ (okr rfl))))
     ·refine qgd 43 g19 rfl (sd 7 rfl (?_))
      rcases cond_some h with ⟨g20, h⟩ | ⟨g20, h⟩
      ·exact qgd 50 g20 rfl (sd 5 rfl (evdn (kJ2 h _ (okr rfl))))
      ·exact qgd 50 g20 rfl (sd 5 rfl (evdn (kJ2 h _ (okr rfl))))
   ·refine qgd 24 g13 rfl (sd 15 rfl (?_))
    obtain ⟨v21, g22, h⟩ := ob_some h
    refine ed rfl (oGR rfl rfl (qC (qa rfl (erg (erc rfl (erc (erD ec27_d _) rfl))) eran) (spec_IsValidRelation_s g22) (sd 3 rfl (?_))))
    rcases cond_some h with ⟨g23, h⟩ | ⟨g23, h⟩
    ·exact qgd 43 g23 rfl (sd 12 rfl (evdn (kJ2 h _ (okr rfl))))
    ·refine qgd 43 g23 rfl (sd 7 rfl (?_))
     rcases cond_some h with ⟨g24, h⟩ | ⟨g24, h⟩
     ·exact qgd 50 g24 rfl (sd 5 rfl (evdn (kJ2 h _ (okr rfl))))
     ·exact qgd 50 g24 rfl (sd 5 rfl (evdn (kJ2 h _ (okr rfl))))
 ·exact qF rfl g3 (ls_exit (kXB1 (Option.some.inj h) _ (okr rfl)))
def spec_IsValidHistory_B1 (a0 : Y25) (rec : Int → Option (Sum (Unit) (Bool))) (y1 : Int) : Option (Sum (Unit) (Bool)) := cond (decide (y1 < (List.length a0.2 : Int))) (obind (geti a0.2 y1) fun e5 => obind (spec_IsValidDatabase e5) fun v7 => cond (!v7) (some (.inr false)) (rec (IntKind.i64.wrap (y1 + 1)))) (some (.inl ()))
def spec_IsValidHistory_J2 (x11 : Bool) : Option (Bool) := some x11
def spec_IsValidHistory (a0 : Y25) : Option (Bool) := obind (loopF (spec_IsValidHistory_B1 a0) fz 0) fun o1 => (match o1 with
  | .inl _ => (obind (spec_l1In (List.length a0.2 : Int) 1 6) fun v12 => cond v12 (obind (spec_l1In a0.1 1 (IntKind.i64.wrap ((IntKind.i64.wrap (99 - (List.length a0.2 : Int))) + 1))) fun v15 => spec_IsValidHistory_J2 v15) (spec_IsValidHistory_J2 false))
  | .inr r => some r)
theorem spec_IsValidHistory_s {a0 : Y25} {r : Bool} (h : spec_IsValidHistory a0 = some r) : SoundAt Tryz.prog 11 [.agg (c26_dddd a0)] (.bool r) := by
 unfold spec_IsValidHistory at h
 refine st lit11 rfl (rn 1 rfl (ls_seq_k fun K1 hK1 => rn 1 rfl ?_))
 obtain ⟨o1, hl, hr1⟩ := ob_some h
 have kXB1 : (.inl ()) = o1 → Jn K1 [(1, .box [nI a0.1, dL c77_ddd a0.2])] := by
  intro h σ' hk
  subst h
  replace h := hr1
  try dsimp only at h
  refine hK1 _ (lh hk rfl (rk fun K10 hK10 => ?_))
  have kJ2 : ∀ {x11 : Bool}, spec_IsValidHistory_J2 x11 = some r → Jn K10 [(2, .bool x11)] := by
   intro x11 h σ' hk
   unfold spec_IsValidHistory_J2 at h
   exact hK10 _ (lh hk rfl (ls_ret ((by cases h; exact ⟨.inl rfl, rfl⟩))))
  refine sp 3 rfl (?_)
  obtain ⟨v12, g13, h⟩ := ob_some h
  refine qC (qs rfl (qs rfl (qs rfl eran))) (spec_l1In_s g13) (sp 1 rfl (?_))
  rcases cond_some h with ⟨g14, h⟩ | ⟨g14, h⟩
  ·refine qg 22 g14 rfl (sp 7 rfl (?_))
   obtain ⟨v15, g16, h⟩ := ob_some h
   exact oGR rfl rfl (qC (qs rfl (qs rfl (qs rfl eran))) (spec_l1In_s g16) (sp 2 rfl (evn (kJ2 h _ (okr rfl)))))
  ·exact qg 22 g14 rfl (sp 10 rfl (evn (kJ2 h _ (okr rfl))))
 refine ls_rec (fun (y1 : Int) => [(1, .box [nI a0.1, dL c77_ddd a0.2]), (3, nI y1)]) _ _ _ _ hl (okr rfl) (fun _ => rfl) ?_
 rintro m y1 N h hN
 unfold spec_IsValidHistory_B1 at h
 refine ls_seq_k fun K2 hK2 => rn 1 rfl ?_
 rcases cond_some h with ⟨g3, h⟩ | ⟨g3, h⟩
 ·refine qT rfl g3 (ls_skip (hK2 _ (ls_seq_k fun K4 hK4 => ls_blk (rs (sp 3 rfl (?_))))))
  obtain ⟨e5, g6, h⟩ := ob_some h
  refine qI rfl zc77_ddd g6 (sp 1 rfl (?_))
  obtain ⟨v7, g8, h⟩ := ob_some h
  refine qC (qa rfl (erg (erc (erD ec114_dd _) rfl)) eran) (spec_IsValidDatabase_s g8) (sp 1 rfl (evn ?_))
  rcases cond_some h with ⟨g9, h⟩ | ⟨g9, h⟩
  ·exact qT rfl g9 (rn 1 rfl (ls_ret ((by cases h; cases hr1; exact ⟨.inl rfl, rfl⟩))))
  ·exact qF rfl g9 (ls_skip (hK4 _ (rg (sp 3 rfl (evn (hN _ _ h (okr rfl)))))))
 ·exact qF rfl g3 (ls_exit (kXB1 (Option.some.inj h) _ (okr rfl)))
def spec_l5Copy_B1 (a0 : Y40) (rec : ((List (List Int)) × Int) → Option ((List (List Int)))) (s : (List (List Int)) × Int) : Option ((List (List Int))) := match s with
  | (y1, y2) => cond (decide (y2 < (List.length a0.2 : Int))) (obind (geti a0.2 y2) fun e6 => chk (List.length ([] : List Int) + List.length e6 ≤ lim) (chk (List.length y1 + List.length ([([] : List Int) ++ e6]) ≤ lim) (rec ((y1 ++ ([([] : List Int) ++ e6])), (IntKind.i64.wrap (y2 + 1)))))) (some y1)
def spec_l5Copy (a0 : Y40) : Option (Y40) := obind (loopF (spec_l5Copy_B1 a0) fz (([] : List (List Int)), 0)) fun z2 => some (a0.1, z2)
theorem spec_l5Copy_s {a0 : Y40} {r : Y40} (h : spec_l5Copy a0 = some r) : SoundAt Tryz.prog 109 [.agg (c41_dd a0)] (.agg (c41_oo r)) := by
 unfold spec_l5Copy at h
 refine st lit109 rfl (rn 2 rfl (ls_seq_k fun K1 hK1 => rn 1 rfl ?_))
 obtain ⟨o1, hl, hr1⟩ := ob_some h
 have kXB1 : ∀ {z2 : List (List Int)}, z2 = o1 → Jn K1 [(2, .box [nI 0, oL 27 c27_o []]), (3, .box [nI a0.1, oL 27 c27_o z2])] := by
  intro z2 h σ' hk
  subst h
  replace h := hr1
  try dsimp only at h
  exact hK1 _ (lh hk rfl (rn 1 rfl (ls_ret ((by cases h; exact ⟨.inl rfl, rfl⟩)))))
 refine ls_rec (fun (s : (List (List Int)) × Int) => match s with | (y1, y2) => [(1, .box [nI a0.1, dL c27_d a0.2]), (2, .box [nI 0, oL 27 c27_o []]), (3, .box [nI a0.1, oL 27 c27_o y1]), (4, nI y2)]) _ _ _ _ hl (okr rfl) (fun _ => rfl) ?_
 rintro m ⟨y1, y2⟩ N h hN
 unfold spec_l5Copy_B1 at h
 dsimp only at h
 refine ls_seq_k fun K3 hK3 => rn 1 rfl ?_
 rcases cond_some h with ⟨g4, h⟩ | ⟨g4, h⟩
 ·refine qT rfl g4 (ls_skip (hK3 _ (ls_seq_k fun K5 hK5 => ls_blk (rgd (by kernel_rfl) (sd 2 rfl (ed rfl (qBs ci64 [] rfl rfl rfl zci64 (sd 3 rfl (?_)))))))))
  obtain ⟨e6, g7, h⟩ := ob_some h
  refine ed rfl (qI rfl zc27_d g7 (sd 1 rfl (?_)))
  obtain ⟨g8, h⟩ := chk_some h
  refine ed rfl (qA ci64 ([] : List Int) e6 rfl rfl (flat_len zci64 e6) (map_dg (fun _ => rfl) _) g8 (ed rfl (qBs c27_o [([] : List Int) ++ e6] rfl rfl rfl zc27_o (?_))))
  obtain ⟨g9, h⟩ := chk_some h
  exact ed rfl (qA c27_o y1 ([([] : List Int) ++ e6]) rfl rfl (flat_len zc27_o ([([] : List Int) ++ e6])) rfl g9 (sd 2 rfl (evdn (hK5 _ (rg (sp 3 rfl (evn (hN _ _ h (okr rfl)))))))))
 ·exact qF rfl g4 (ls_exit (kXB1 (Option.some.inj h) _ (okr rfl)))
def spec_l6Copy_B1 (a0 : List Y113) (rec : ((List Y113) × Int) → Option ((List Y113))) (s : (List Y113) × Int) : Option ((List Y113)) := match s with
  | (y1, y2) => cond (decide (y2 < (List.length a0 : Int))) (obind (geti a0 y2) fun e6 => obind (spec_l5Copy e6.2) fun v8 => obind (geti a0 y2) fun e10 => chk (List.length y1 + List.length [(e10.1, v8)] ≤ lim) (rec ((y1 ++ [(e10.1, v8)]), (IntKind.i64.wrap (y2 + 1))))) (some y1)
def spec_l6Copy (a0 : List Y113) : Option ((List Y113)) := obind (loopF (spec_l6Copy_B1 a0) fz (([] : List Y113), 0)) fun z2 => some z2
theorem spec_l6Copy_s {a0 : List Y113} {r : (List Y113)} (h : spec_l6Copy a0 = some r) : SoundAt Tryz.prog 71 [.agg [dL c114_dd a0]] (.agg [oL 114 c114_oo r]) := by
 unfold spec_l6Copy at h
 refine st lit71 rfl (rn 2 rfl (ls_seq_k fun K1 hK1 => rn 1 rfl ?_))
 obtain ⟨o1, hl, hr1⟩ := ob_some h
 have kXB1 : ∀ {z2 : List Y113}, z2 = o1 → Jn K1 [(2, .box [oL 114 c114_oo []]), (3, .box [oL 114 c114_oo z2])] := by
  intro z2 h σ' hk
  subst h
  replace h := hr1
  try dsimp only at h
  exact hK1 _ (lh hk rfl (rn 1 rfl (ls_ret ((by cases h; exact ⟨.inl rfl, rfl⟩)))))
 refine ls_rec (fun (s : (List Y113) × Int) => match s with | (y1, y2) => [(1, .box [dL c114_dd a0]), (2, .box [oL 114 c114_oo []]), (3, .box [oL 114 c114_oo y1]), (4, nI y2)]) _ _ _ _ hl (okr rfl) (fun _ => rfl) ?_
 rintro m ⟨y1, y2⟩ N h hN
 unfold spec_l6Copy_B1 at h
 dsimp only at h
 refine ls_seq_k fun K3 hK3 => rn 1 rfl ?_
 rcases cond_some h with ⟨g4, h⟩ | ⟨g4, h⟩
 ·refine qT rfl g4 (ls_skip (hK3 _ (ls_seq_k fun K5 hK5 => ls_blk (rs (sp 3 rfl (?_))))))
  obtain ⟨e6, g7, h⟩ := ob_some h
  refine qI rfl zc114_dd g7 (sp 2 rfl (?_))
  obtain ⟨v8, g9, h⟩ := ob_some h
  refine qC (qa rfl (erg (erc rfl (erc (erD ec27_d _) rfl))) eran) (spec_l5Copy_s g9) (sp 2 rfl (evn (rgd (by kernel_rfl) (sd 5 rfl (?_)))))
  obtain ⟨e10, g11, h⟩ := ob_some h
  refine ed rfl (qI rfl zc114_dd g11 (sd 4 rfl (ed rfl (qBs c114_oo [(e10.1, v8)] rfl rfl rfl zc114_oo (?_)))))
  obtain ⟨g12, h⟩ := chk_some h
  exact ed rfl (qA c114_oo y1 [(e10.1, v8)] rfl rfl (flat_len zc114_oo [(e10.1, v8)]) rfl g12 (sd 2 rfl (evdn (hK5 _ (rg (sp 3 rfl (evn (hN _ _ h (okr rfl)))))))))
 ·exact qF rfl g4 (ls_exit (kXB1 (Option.some.inj h) _ (okr rfl)))
def spec_SnapshotAt (a0 : Y25) (a1 : Int) : Option ((List Y113) × Bool) := obind (spec_IsValidHistory a0) fun v2 => cond (!v2) (some ([], false)) (obind (spec_l1In a1 a0.1 (IntKind.i64.wrap ((IntKind.i64.wrap (a0.1 + (List.length a0.2 : Int))) - 1))) fun v5 => cond (!v5) (some ([], false)) (obind (geti a0.2 (IntKind.i64.wrap (a1 - a0.1))) fun e8 => obind (spec_l6Copy e8) fun v10 => some (v10, true)))
theorem spec_SnapshotAt_s {a0 : Y25} {a1 : Int} {r : (List Y113) × Bool} (h : spec_SnapshotAt a0 a1 = some r) : SoundAt Tryz.prog 37 [.agg (c26_dddd a0), nI a1] (.tup [.agg [oL 114 c114_oo r.1], .bool r.2]) := by
 unfold spec_SnapshotAt at h
 refine st lit37 rfl (rn 1 rfl (ls_seq_k fun K1 hK1 => rs (sp 1 rfl (?_))))
 obtain ⟨v2, g3, h⟩ := ob_some h
 refine qC (qa rfl (erg (erc rfl (erc (erD ec77_ddd _) rfl))) eran) (spec_IsValidHistory_s g3) (sp 2 rfl (?_))
 rcases cond_some h with ⟨g4, h⟩ | ⟨g4, h⟩
 ·exact qg 9 g4 rfl (sp 13 rfl (evn (qT rfl rfl (rn 1 rfl (ls_ret ((by cases h; exact ⟨.inl rfl, rfl⟩)))))))
 ·refine qg 9 g4 rfl (sp 10 rfl (?_))
  obtain ⟨v5, g6, h⟩ := ob_some h
  refine oGR rfl rfl (qC (qs rfl (qs rfl (qs rfl eran))) (spec_l1In_s g6) (sp 2 rfl (evn (qk [1, 2, 4, 22] rfl ?_))))
  rcases cond_some h with ⟨g7, h⟩ | ⟨g7, h⟩
  ·exact qT rfl g7 (rn 1 rfl (ls_ret ((by cases h; exact ⟨.inl rfl, rfl⟩))))
  ·refine qF rfl g7 (ls_skip (hK1 _ (rs (sp 6 rfl (?_)))))
   obtain ⟨e8, g9, h⟩ := ob_some h
   refine qI rfl zc77_ddd g9 (sp 1 rfl (?_))
   obtain ⟨v10, g11, h⟩ := ob_some h
   exact qC (qa rfl (erg (erc (erD ec114_dd _) rfl)) eran) (spec_l6Copy_s g11) (sp 2 rfl (evn (ls_ret ((by cases h; exact ⟨.inl rfl, rfl⟩)))))
def spec_ContainsVariable_B1 (a0 : Y108) (a1 : Int) (rec : Int → Option (Sum (Unit) (Bool))) (y1 : Int) : Option (Sum (Unit) (Bool)) := cond (decide (y1 < (List.length a0.2 : Int))) (obind (geti a0.2 y1) fun e5 => cond (e5 == a1) (some (.inr true)) (rec (IntKind.i64.wrap (y1 + 1)))) (some (.inl ()))
def spec_ContainsVariable (a0 : Y108) (a1 : Int) : Option (Bool) := obind (loopF (spec_ContainsVariable_B1 a0 a1) fz 0) fun o1 => (match o1 with
  | .inl _ => (some false)
  | .inr r => some r)
theorem spec_ContainsVariable_s {a0 : Y108} {a1 : Int} {r : Bool} (h : spec_ContainsVariable a0 a1 = some r) : SoundAt Tryz.prog 140 [.agg (c109_d a0), nI a1] (.bool r) := by
 unfold spec_ContainsVariable at h
 refine st lit140 rfl (rn 1 rfl (ls_seq_k fun K1 hK1 => rn 1 rfl ?_))
 obtain ⟨o1, hl, hr1⟩ := ob_some h
 have kXB1 : (.inl ()) = o1 → Jn K1 [] := by
  intro h σ' hk
  subst h
  replace h := hr1
  try dsimp only at h
  exact hK1 _ (lh hk rfl (rn 1 rfl (ls_ret ((by cases h; exact ⟨.inl rfl, rfl⟩)))))
 refine ls_rec (fun (y1 : Int) => [(1, nI a1), (2, .box [.str a0.1, dL ci64 a0.2]), (5, nI y1)]) _ _ _ _ hl (okr rfl) (fun _ => rfl) ?_
 rintro m y1 N h hN
 unfold spec_ContainsVariable_B1 at h
 refine ls_seq_k fun K2 hK2 => rn 1 rfl ?_
 rcases cond_some h with ⟨g3, h⟩ | ⟨g3, h⟩
 ·refine qT rfl g3 (ls_skip (hK2 _ (ls_seq_k fun K4 hK4 => ls_blk (rs (sp 3 rfl (?_))))))
  obtain ⟨e5, g6, h⟩ := ob_some h
  refine qI rfl zci64 g6 (sp 3 rfl (evn ?_))
  rcases cond_some h with ⟨g7, h⟩ | ⟨g7, h⟩
  ·exact qT rfl g7 (rn 1 rfl (ls_ret ((by cases h; cases hr1; exact ⟨.inl rfl, rfl⟩))))
  ·exact qF rfl g7 (ls_skip (hK4 _ (rg (sp 3 rfl (evn (hN _ _ h (okr rfl)))))))
 ·exact qF rfl g3 (ls_exit (kXB1 (Option.some.inj h) _ trivial))
def spec_l7Find_B1 (a0 : List Int) (a1 : Int) (rec : Int → Option (Sum (Unit) (Int))) (y1 : Int) : Option (Sum (Unit) (Int)) := cond (decide (y1 < (List.length a0 : Int))) (obind (geti a0 y1) fun e5 => cond (e5 == a1) (some (.inr y1)) (rec (IntKind.i64.wrap (y1 + 1)))) (some (.inl ()))
def spec_l7Find (a0 : List Int) (a1 : Int) : Option (Int) := obind (loopF (spec_l7Find_B1 a0 a1) fz 0) fun o1 => (match o1 with
  | .inl _ => (some (-1))
  | .inr r => some r)
theorem spec_l7Find_s {a0 : List Int} {a1 : Int} {r : Int} (h : spec_l7Find a0 a1 = some r) : SoundAt Tryz.prog 141 [dL ci64 a0, nI a1] (nI r) := by
 unfold spec_l7Find at h
 refine st lit141 rfl (rn 1 rfl (ls_seq_k fun K1 hK1 => rn 1 rfl ?_))
 obtain ⟨o1, hl, hr1⟩ := ob_some h
 have kXB1 : (.inl ()) = o1 → Jn K1 [] := by
  intro h σ' hk
  subst h
  replace h := hr1
  try dsimp only at h
  exact hK1 _ (lh hk rfl (rn 1 rfl (ls_ret ((by cases h; exact ⟨.inl rfl, rfl⟩)))))
 refine ls_rec (fun (y1 : Int) => [(0, dL ci64 a0), (1, nI a1), (5, nI y1)]) _ _ _ _ hl (okr rfl) (fun _ => rfl) ?_
 rintro m y1 N h hN
 unfold spec_l7Find_B1 at h
 refine ls_seq_k fun K2 hK2 => rn 1 rfl ?_
 rcases cond_some h with ⟨g3, h⟩ | ⟨g3, h⟩
 ·refine qT rfl g3 (ls_skip (hK2 _ (ls_seq_k fun K4 hK4 => ls_blk (rs (sp 2 rfl (?_))))))
  obtain ⟨e5, g6, h⟩ := ob_some h
  refine qI rfl zci64 g6 (sp 3 rfl (evn ?_))
  rcases cond_some h with ⟨g7, h⟩ | ⟨g7, h⟩
  ·exact qT rfl g7 (rn 1 rfl (ls_ret ((by cases h; cases hr1; exact ⟨.inl rfl, rfl⟩))))
  ·exact qF rfl g7 (ls_skip (hK4 _ (rg (sp 3 rfl (evn (hN _ _ h (okr rfl)))))))
 ·exact qF rfl g3 (ls_exit (kXB1 (Option.some.inj h) _ trivial))
def spec_IsValidQuery_B2 (a0 : Y29) (y2 : Int) (rec : Int → Option (Sum (Unit) (Bool))) (y4 : Int) : Option (Sum (Unit) (Bool)) := obind (geti a0.2.1 y2) fun e25 => cond (decide (y4 < (List.length e25.2 : Int))) (obind (geti a0.2.1 y2) fun e29 => obind (geti e29.2 y4) fun e31 => obind (spec_l1In e31 0 (IntKind.i64.wrap (a0.1 - 1))) fun v33 => cond (!v33) (some (.inr false)) (rec (IntKind.i64.wrap (y4 + 1)))) (some (.inl ()))
def spec_IsValidQuery_B1 (a0 : Y29) (rec : Int → Option (Sum (Unit) (Bool))) (y2 : Int) : Option (Sum (Unit) (Bool)) := cond (decide (y2 < (List.length a0.2.1 : Int))) (obind (geti a0.2.1 y2) fun e14 => obind (spec_IsValidName e14.1) fun v16 => cond (!v16) (some (.inr false)) (obind (geti a0.2.1 y2) fun e19 => obind (spec_l1In (List.length e19.2 : Int) 1 5) fun v21 => cond (!v21) (some (.inr false)) (obind (loopF (spec_IsValidQuery_B2 a0 y2) fz 0) fun o2 => (match o2 with
  | .inl _ => (rec (IntKind.i64.wrap (y2 + 1)))
  | .inr r => some (.inr r))))) (some (.inl ()))
def spec_IsValidQuery_J5 (rec : (Bool × Int) → Option (Bool)) (y11 : Int) (x45 : Bool) : Option (Bool) := rec (x45, (IntKind.i64.wrap (y11 + 1)))
def spec_IsValidQuery_B4 (a0 : Y29) (y7 : Int) (rec : (Bool × Int) → Option (Bool)) (s : Bool × Int) : Option (Bool) := match s with
  | (y10, y11) => cond (decide (y11 < (List.length a0.2.1 : Int))) (cond y10 (spec_IsValidQuery_J5 rec y11 true) (obind (geti a0.2.1 y11) fun e47 => obind (spec_ContainsVariable e47 y7) fun v49 => spec_IsValidQuery_J5 rec y11 v49)) (some y10)
def spec_IsValidQuery_B3 (a0 : Y29) (rec : Int → Option (Sum (Unit) (Bool))) (y7 : Int) : Option (Sum (Unit) (Bool)) := cond (decide (y7 < a0.1)) (obind (loopF (spec_IsValidQuery_B4 a0 y7) fz (false, 0)) fun z41 => cond (!z41) (some (.inr false)) (rec (IntKind.i64.wrap (y7 + 1)))) (some (.inl ()))
def spec_IsValidQuery_B6 (a0 : Y29) (rec : Int → Option (Sum (Unit) (Bool))) (y12 : Int) : Option (Sum (Unit) (Bool)) := cond (decide (y12 < (List.length a0.2.2 : Int))) (obind (geti a0.2.2 y12) fun e56 => obind (spec_l1In e56 0 (IntKind.i64.wrap (a0.1 - 1))) fun v58 => cond (!v58) (some (.inr false)) (chk ((0 : Int) ≤ 0 ∧ 0 ≤ y12 ∧ y12 ≤ (List.length a0.2.2 : Int)) (obind (geti a0.2.2 y12) fun e62 => obind (spec_l7Find (subl a0.2.2 0 y12) e62) fun v64 => cond (decide (0 ≤ v64)) (some (.inr false)) (rec (IntKind.i64.wrap (y12 + 1)))))) (some (.inl ()))
def spec_IsValidQuery (a0 : Y29) : Option (Bool) := obind (spec_l1In a0.1 1 5) fun v2 => cond (!v2) (some false) (obind (spec_l1In (List.length a0.2.1 : Int) 1 4) fun v5 => cond (!v5) (some false) (cond (decide (a0.1 < (List.length a0.2.2 : Int))) (some false) (obind (loopF (spec_IsValidQuery_B1 a0) fz 0) fun o1 => (match o1 with
  | .inl _ => (obind (loopF (spec_IsValidQuery_B3 a0) fz 0) fun o3 => (match o3 with
  | .inl _ => (obind (loopF (spec_IsValidQuery_B6 a0) fz 0) fun o6 => (match o6 with
  | .inl _ => (some true)
  | .inr r => some r))
  | .inr r => some r))
  | .inr r => some r))))
theorem spec_IsValidQuery_s {a0 : Y29} {r : Bool} (h : spec_IsValidQuery a0 = some r) : SoundAt Tryz.prog 101 [.agg (c30_ddd a0)] (.bool r) := by
 unfold spec_IsValidQuery at h
 refine st lit101 rfl (rn 1 rfl (ls_seq_k fun K1 hK1 => rs (sp 2 rfl (?_))))
 obtain ⟨v2, g3, h⟩ := ob_some h
 refine qC (qs rfl (qs rfl (qs rfl eran))) (spec_l1In_s g3) (sp 2 rfl (?_))
 rcases cond_some h with ⟨g4, h⟩ | ⟨g4, h⟩
 ·exact qg 13 g4 rfl (sp 14 rfl (evn (qT rfl rfl (rn 1 rfl (ls_ret ((by cases h; exact ⟨.inl rfl, rfl⟩)))))))
 ·refine qg 13 g4 rfl (sp 3 rfl (?_))
  obtain ⟨v5, g6, h⟩ := ob_some h
  refine oGR rfl rfl (qC (qs rfl (qs rfl (qs rfl eran))) (spec_l1In_s g6) (sp 3 rfl (?_)))
  rcases cond_some h with ⟨g7, h⟩ | ⟨g7, h⟩
  ·exact qg 20 g7 rfl (sp 7 rfl (evn (qk [1, 27] rfl (qT rfl rfl (rn 1 rfl (ls_ret ((by cases h; exact ⟨.inl rfl, rfl⟩))))))))
  ·refine qg 20 g7 rfl (sp 7 rfl (evn ?_))
   rcases cond_some h with ⟨g8, h⟩ | ⟨g8, h⟩
   ·exact qT rfl g8 (rn 1 rfl (ls_ret ((by cases h; exact ⟨.inl rfl, rfl⟩))))
   ·refine qF rfl g8 (ls_skip (hK1 _ (ls_seq_k fun K9 hK9 => rn 1 rfl ?_)))
    obtain ⟨o1, hl, hr1⟩ := ob_some h
    have kXB1 : (.inl ()) = o1 → Jn K9 [(1, .box [nI a0.1, dL c109_d a0.2.1, dL ci64 a0.2.2])] := by
     intro h σ' hk
     subst h
     replace h := hr1
     try dsimp only at h
     refine hK9 _ (lh hk rfl (ls_seq_k fun K36 hK36 => rn 1 rfl ?_))
     obtain ⟨o3, hl, hr3⟩ := ob_some h
     have kXB3 : (.inl ()) = o3 → Jn K36 [(1, .box [nI a0.1, dL c109_d a0.2.1, dL ci64 a0.2.2])] := by
      intro h σ' hk
      subst h
      replace h := hr3
      try dsimp only at h
      refine hK36 _ (lh hk rfl (ls_seq_k fun K52 hK52 => rn 1 rfl ?_))
      obtain ⟨o6, hl, hr6⟩ := ob_some h
      have kXB6 : (.inl ()) = o6 → Jn K52 [] := by
       intro h σ' hk
       subst h
       replace h := hr6
       try dsimp only at h
       exact hK52 _ (lh hk rfl (rn 1 rfl (ls_ret ((by cases h; exact ⟨.inl rfl, rfl⟩)))))
      refine ls_rec (fun (y12 : Int) => [(1, .box [nI a0.1, dL c109_d a0.2.1, dL ci64 a0.2.2]), (8, nI y12)]) _ _ _ _ hl (okr rfl) (fun _ => rfl) ?_
      rintro m y12 N h hN
      unfold spec_IsValidQuery_B6 at h
      refine ls_seq_k fun K53 hK53 => rn 1 rfl ?_
      rcases cond_some h with ⟨g54, h⟩ | ⟨g54, h⟩
      ·refine qT rfl g54 (ls_skip (hK53 _ (ls_seq_k fun K55 hK55 => ls_blk (rd (by kernel_rfl) (sd 3 rfl (?_))))))
       obtain ⟨e56, g57, h⟩ := ob_some h
       refine ed rfl (qI rfl zci64 g57 (sd 4 rfl (?_)))
       obtain ⟨v58, g59, h⟩ := ob_some h
       refine ed rfl (qC (qs rfl (qs rfl (qs rfl eran))) (spec_l1In_s g59) (sd 2 rfl (?_)))
       rcases cond_some h with ⟨g60, h⟩ | ⟨g60, h⟩
       ·exact qgd 121 g60 rfl (sd 12 rfl (evdn (qT rfl rfl (rn 1 rfl (qk [2] rfl (ls_ret ((by cases h; cases hr6; exact ⟨.inl rfl, rfl⟩))))))))
       ·refine qgd 121 g60 rfl (sd 3 rfl (?_))
        obtain ⟨g61, h⟩ := chk_some h
        refine ed rfl (oGR rfl rfl (qSl rfl zci64 g61 (sd 3 rfl (?_))))
        obtain ⟨e62, g63, h⟩ := ob_some h
        refine ed rfl (oGR rfl rfl (qI rfl zci64 g63 (sd 1 rfl (?_))))
        obtain ⟨v64, g65, h⟩ := ob_some h
        refine ed rfl (oGR rfl rfl (qC (qa rfl (erD eci64 _) (qs rfl eran)) (spec_l7Find_s g65) (sd 2 rfl (evdn ?_))))
        rcases cond_some h with ⟨g66, h⟩ | ⟨g66, h⟩
        ·exact qT rfl g66 (rn 1 rfl (ls_ret ((by cases h; cases hr6; exact ⟨.inl rfl, rfl⟩))))
        ·exact qF rfl g66 (ls_skip (hK55 _ (rg (sp 3 rfl (evn (hN _ _ h (okr rfl)))))))
      ·exact qF rfl g54 (ls_exit (kXB6 (Option.some.inj h) _ trivial))
     refine ls_rec (fun (y7 : Int) => [(1, .box [nI a0.1, dL c109_d a0.2.1, dL ci64 a0.2.2]), (5, nI y7)]) _ _ _ _ hl (okr rfl) (fun _ => rfl) ?_
     rintro m y7 N h hN
     unfold spec_IsValidQuery_B3 at h
     refine ls_seq_k fun K37 hK37 => rn 1 rfl ?_
     rcases cond_some h with ⟨g38, h⟩ | ⟨g38, h⟩
     ·refine qT rfl g38 (ls_skip (hK37 _ (ls_seq_k fun K39 hK39 => ls_blk (rn 1 rfl (ls_seq_k fun K40 hK40 => rn 1 rfl ?_)))))
      obtain ⟨o4, hl, hr4⟩ := ob_some h
      have kXB4 : ∀ {z41 : Bool}, z41 = o4 → Jn K40 [(1, .box [nI a0.1, dL c109_d a0.2.1, dL ci64 a0.2.2]), (5, nI y7), (6, .bool z41)] := by
       intro z41 h σ' hk
       subst h
       replace h := hr4
       try dsimp only at h
       refine hK40 _ (lh hk rfl (rn 1 rfl ?_))
       rcases cond_some h with ⟨g51, h⟩ | ⟨g51, h⟩
       ·exact qT rfl g51 (rn 1 rfl (ls_ret ((by cases h; cases hr3; exact ⟨.inl rfl, rfl⟩))))
       ·exact qF rfl g51 (ls_skip (hK39 _ (rg (sp 3 rfl (evn (hN _ _ h (okr rfl)))))))
      refine ls_rec (fun (s : Bool × Int) => match s with | (y10, y11) => [(1, .box [nI a0.1, dL c109_d a0.2.1, dL ci64 a0.2.2]), (5, nI y7), (6, .bool y10), (7, nI y11)]) _ _ _ _ hl (okr rfl) (fun _ => rfl) ?_
      rintro m ⟨y10, y11⟩ N h hN
      unfold spec_IsValidQuery_B4 at h
      dsimp only at h
      refine ls_seq_k fun K42 hK42 => rn 1 rfl ?_
      rcases cond_some h with ⟨g43, h⟩ | ⟨g43, h⟩
      ·refine qT rfl g43 (ls_skip (hK42 _ (ls_seq_k fun K44 hK44 => ls_blk ?_)))
       have kJ5 : ∀ {x45 : Bool}, spec_IsValidQuery_J5 (loopF (spec_IsValidQuery_B4 a0 y7) m) y11 x45 = some o4 → Jn K44 [(1, .box [nI a0.1, dL c109_d a0.2.1, dL ci64 a0.2.2]), (5, nI y7), (6, .bool x45), (7, nI y11)] := by
        intro x45 h σ' hk
        unfold spec_IsValidQuery_J5 at h
        exact hK44 _ (lh hk rfl (rg (sp 3 rfl (evn (hN _ _ h (okr rfl))))))
       refine rg (sp 2 rfl (?_))
       rcases cond_some h with ⟨g46, h⟩ | ⟨g46, h⟩
       ·exact qg 93 g46 rfl (sp 9 rfl (evn (kJ5 h _ (okr rfl))))
       ·refine qg 93 g46 rfl (sp 3 rfl (?_))
        obtain ⟨e47, g48, h⟩ := ob_some h
        refine oGR rfl rfl (qI rfl zc109_d g48 (sp 2 rfl (?_)))
        obtain ⟨v49, g50, h⟩ := ob_some h
        exact oGR rfl rfl (qC (qa rfl (erg (erc rfl (erc (erD eci64 _) rfl))) (qs rfl eran)) (spec_ContainsVariable_s g50) (sp 2 rfl (evn (kJ5 h _ (okr rfl)))))
      ·exact qF rfl g43 (ls_exit (kXB4 (Option.some.inj h) _ (okr rfl)))
     ·exact qF rfl g38 (ls_exit (kXB3 (Option.some.inj h) _ (okr rfl)))
    refine ls_rec (fun (y2 : Int) => [(1, .box [nI a0.1, dL c109_d a0.2.1, dL ci64 a0.2.2]), (3, nI y2)]) _ _ _ _ hl (okr rfl) (fun _ => rfl) ?_
    rintro m y2 N h hN
    unfold spec_IsValidQuery_B1 at h
    refine ls_seq_k fun K10 hK10 => rn 1 rfl ?_
    rcases cond_some h with ⟨g11, h⟩ | ⟨g11, h⟩
    ·refine qT rfl g11 (ls_skip (hK10 _ (ls_seq_k fun K12 hK12 => ls_blk (ls_seq_k fun K13 hK13 => rs (sp 3 rfl (?_))))))
     obtain ⟨e14, g15, h⟩ := ob_some h
     refine qI rfl zc109_d g15 (sp 2 rfl (?_))
     obtain ⟨v16, g17, h⟩ := ob_some h
     refine qC (qs rfl eran) (spec_IsValidName_s g17) (sp 2 rfl (?_))
     rcases cond_some h with ⟨g18, h⟩ | ⟨g18, h⟩
     ·exact qg 43 g18 rfl (sp 10 rfl (evn (qT rfl rfl (rn 1 rfl (ls_ret ((by cases h; cases hr1; exact ⟨.inl rfl, rfl⟩)))))))
     ·refine qg 43 g18 rfl (sp 3 rfl (?_))
      obtain ⟨e19, g20, h⟩ := ob_some h
      refine oGR rfl rfl (qI rfl zc109_d g20 (sp 3 rfl (?_)))
      obtain ⟨v21, g22, h⟩ := ob_some h
      refine oGR rfl rfl (qC (qs rfl (qs rfl (qs rfl eran))) (spec_l1In_s g22) (sp 2 rfl (evn (qk [1, 3, 53] rfl ?_))))
      rcases cond_some h with ⟨g23, h⟩ | ⟨g23, h⟩
      ·exact qT rfl g23 (rn 1 rfl (ls_ret ((by cases h; cases hr1; exact ⟨.inl rfl, rfl⟩))))
      ·refine qF rfl g23 (ls_skip (hK13 _ (rn 1 rfl ?_)))
       obtain ⟨o2, hl, hr2⟩ := ob_some h
       have kXB2 : (.inl ()) = o2 → Jn K12 [(1, .box [nI a0.1, dL c109_d a0.2.1, dL ci64 a0.2.2]), (3, nI y2)] := by
        intro h σ' hk
        subst h
        replace h := hr2
        try dsimp only at h
        exact hK12 _ (lh hk rfl (rg (sp 3 rfl (evn (hN _ _ h (okr rfl))))))
       refine ls_rec (fun (y4 : Int) => [(1, .box [nI a0.1, dL c109_d a0.2.1, dL ci64 a0.2.2]), (3, nI y2), (4, nI y4)]) _ _ _ _ hl (okr rfl) (fun _ => rfl) ?_
       rintro m y4 N h hN
       unfold spec_IsValidQuery_B2 at h
       refine ls_seq_k fun K24 hK24 => rs (sp 4 rfl (?_))
       obtain ⟨e25, g26, h⟩ := ob_some h
       refine qI rfl zc109_d g26 (sp 4 rfl (evn ?_))
       rcases cond_some h with ⟨g27, h⟩ | ⟨g27, h⟩
       ·refine qT rfl g27 (ls_skip (hK24 _ (ls_seq_k fun K28 hK28 => ls_blk (rd (by kernel_rfl) (sd 3 rfl (?_))))))
        obtain ⟨e29, g30, h⟩ := ob_some h
        refine ed rfl (qI rfl zc109_d g30 (sd 3 rfl (?_)))
        obtain ⟨e31, g32, h⟩ := ob_some h
        refine ed rfl (qI rfl zci64 g32 (sd 4 rfl (?_)))
        obtain ⟨v33, g34, h⟩ := ob_some h
        refine ed rfl (qC (qs rfl (qs rfl (qs rfl eran))) (spec_l1In_s g34) (sd 1 rfl (evdn ?_)))
        rcases cond_some h with ⟨g35, h⟩ | ⟨g35, h⟩
        ·exact qT rfl g35 (rn 1 rfl (ls_ret ((by cases h; cases hr2; cases hr1; exact ⟨.inl rfl, rfl⟩))))
        ·exact qF rfl g35 (ls_skip (hK28 _ (qk [1, 3, 4] rfl (rg (sp 3 rfl (evn (hN _ _ h (okr rfl))))))))
       ·exact qF rfl g27 (ls_exit (kXB2 (Option.some.inj h) _ (okr rfl)))
    ·exact qF rfl g11 (ls_exit (kXB1 (Option.some.inj h) _ (okr rfl)))
def spec_LookupRelation_B1 (a0 : List Y113) (a1 : List UInt8) (rec : Int → Option (Sum (Unit) (Y40 × Bool))) (y1 : Int) : Option (Sum (Unit) (Y40 × Bool)) := cond (decide (y1 < (List.length a0 : Int))) (obind (spec_IsValidDatabase a0) fun v4 => cond v4 (obind (geti a0 y1) fun e8 => cond (e8.1 == a1) (obind (geti a0 y1) fun e11 => obind (spec_l5Copy e11.2) fun v13 => some (.inr (v13, true))) (rec (IntKind.i64.wrap (y1 + 1)))) (some (.inl ()))) (some (.inl ()))
def spec_LookupRelation (a0 : List Y113) (a1 : List UInt8) : Option (Y40 × Bool) := obind (loopF (spec_LookupRelation_B1 a0 a1) fz 0) fun o1 => (match o1 with
  | .inl _ => (some ((0, []), false))
  | .inr r => some r)
theorem spec_LookupRelation_s {a0 : List Y113} {a1 : List UInt8} {r : Y40 × Bool} (h : spec_LookupRelation a0 a1 = some r) : SoundAt Tryz.prog 132 [.agg [dL c114_dd a0], .str a1] (.tup [.agg (c41_oo r.1), .bool r.2]) := by
 unfold spec_LookupRelation at h
 refine st lit132 rfl (rn 1 rfl (ls_seq_k fun K1 hK1 => rn 1 rfl ?_))
 obtain ⟨o1, hl, hr1⟩ := ob_some h
 have kXB1 : (.inl ()) = o1 → Jn K1 [(4, .box [nI 0, oL 27 c27_o []])] := by
  intro h σ' hk
  subst h
  replace h := hr1
  try dsimp only at h
  exact hK1 _ (lh hk rfl (rn 1 rfl (ls_ret ((by cases h; exact ⟨.inl rfl, rfl⟩)))))
 refine ls_rec (fun (y1 : Int) => [(1, .str a1), (2, .box [dL c114_dd a0]), (4, .box [nI 0, oL 27 c27_o []]), (6, nI y1)]) _ _ _ _ hl (okr rfl) (fun _ => rfl) ?_
 rintro m y1 N h hN
 unfold spec_LookupRelation_B1 at h
 refine ls_seq_k fun K2 hK2 => rs (sp 6 rfl (?_))
 rcases cond_some h with ⟨g3, h⟩ | ⟨g3, h⟩
 ·refine qg 12 g3 rfl (sp 1 rfl (?_))
  obtain ⟨v4, g5, h⟩ := ob_some h
  refine oGR rfl rfl (qC (qa rfl (erg (erc (erD ec114_dd _) rfl)) eran) (spec_IsValidDatabase_s g5) (sp 1 rfl (evn ?_)))
  rcases cond_some h with ⟨g6, h⟩ | ⟨g6, h⟩
  ·refine qT rfl g6 (ls_skip (hK2 _ (ls_seq_k fun K7 hK7 => ls_blk (rs (sp 3 rfl (?_))))))
   obtain ⟨e8, g9, h⟩ := ob_some h
   refine qI rfl zc114_dd g9 (sp 4 rfl (evn ?_))
   rcases cond_some h with ⟨g10, h⟩ | ⟨g10, h⟩
   ·refine qT rfl g10 (rs (sp 3 rfl (?_)))
    obtain ⟨e11, g12, h⟩ := ob_some h
    refine qI rfl zc114_dd g12 (sp 2 rfl (?_))
    obtain ⟨v13, g14, h⟩ := ob_some h
    exact qC (qa rfl (erg (erc rfl (erc (erD ec27_d _) rfl))) eran) (spec_l5Copy_s g14) (sp 2 rfl (evn (ls_ret ((by cases h; cases hr1; exact ⟨.inl rfl, rfl⟩)))))
   ·exact qF rfl g10 (ls_skip (hK7 _ (qk [1, 2, 4, 6] rfl (rg (sp 3 rfl (evn (hN _ _ h (okr rfl))))))))
  ·exact qF rfl g6 (ls_exit (kXB1 (Option.some.inj h) _ (okr rfl)))
 ·exact qg 12 g3 rfl (sp 3 rfl (evn (qF rfl rfl (ls_exit (kXB1 (Option.some.inj h) _ (okr rfl))))))
def spec_IsQueryFor_B1 (a0 : List Y113) (a1 : Y29) (rec : Int → Option (Sum (Unit) (Bool))) (y1 : Int) : Option (Sum (Unit) (Bool)) := cond (decide (y1 < (List.length a1.2.1 : Int))) (obind (geti a1.2.1 y1) fun e5 => obind (spec_LookupRelation a0 e5.1) fun v7 => cond (!v7.2) (some (.inr false)) (obind (geti a1.2.1 y1) fun e10 => cond (v7.1.1 != (List.length e10.2 : Int)) (some (.inr false)) (rec (IntKind.i64.wrap (y1 + 1))))) (some (.inl ()))
def spec_IsQueryFor_J2 (x14 : Bool) : Option (Bool) := some x14
def spec_IsQueryFor (a0 : List Y113) (a1 : Y29) : Option (Bool) := obind (loopF (spec_IsQueryFor_B1 a0 a1) fz 0) fun o1 => (match o1 with
  | .inl _ => (obind (spec_IsValidQuery a1) fun v15 => cond v15 (obind (spec_IsValidDatabase a0) fun v18 => spec_IsQueryFor_J2 v18) (spec_IsQueryFor_J2 false))
  | .inr r => some r)
theorem spec_IsQueryFor_s {a0 : List Y113} {a1 : Y29} {r : Bool} (h : spec_IsQueryFor a0 a1 = some r) : SoundAt Tryz.prog 102 [.agg [dL c114_dd a0], .agg (c30_ddd a1)] (.bool r) := by
 unfold spec_IsQueryFor at h
 refine st lit102 rfl (rn 1 rfl (ls_seq_k fun K1 hK1 => rn 1 rfl ?_))
 obtain ⟨o1, hl, hr1⟩ := ob_some h
 have kXB1 : (.inl ()) = o1 → Jn K1 [(2, .box [dL c114_dd a0]), (3, .box [nI a1.1, dL c109_d a1.2.1, dL ci64 a1.2.2])] := by
  intro h σ' hk
  subst h
  replace h := hr1
  try dsimp only at h
  refine hK1 _ (lh hk rfl (rk fun K13 hK13 => ?_))
  have kJ2 : ∀ {x14 : Bool}, spec_IsQueryFor_J2 x14 = some r → Jn K13 [(4, .bool x14)] := by
   intro x14 h σ' hk
   unfold spec_IsQueryFor_J2 at h
   exact hK13 _ (lh hk rfl (ls_ret ((by cases h; exact ⟨.inl rfl, rfl⟩))))
  refine sp 1 rfl (?_)
  obtain ⟨v15, g16, h⟩ := ob_some h
  refine qC (qa rfl (erg (erc rfl (erc (erD ec109_d _) (erc (erD eci64 _) rfl)))) eran) (spec_IsValidQuery_s g16) (sp 1 rfl (?_))
  rcases cond_some h with ⟨g17, h⟩ | ⟨g17, h⟩
  ·refine qg 42 g17 rfl (sp 1 rfl (?_))
   obtain ⟨v18, g19, h⟩ := ob_some h
   exact oGR rfl rfl (qC (qa rfl (erg (erc (erD ec114_dd _) rfl)) eran) (spec_IsValidDatabase_s g19) (sp 2 rfl (evn (kJ2 h _ (okr rfl)))))
  ·exact qg 42 g17 rfl (sp 4 rfl (evn (kJ2 h _ (okr rfl))))
 refine ls_rec (fun (y1 : Int) => [(2, .box [dL c114_dd a0]), (3, .box [nI a1.1, dL c109_d a1.2.1, dL ci64 a1.2.2]), (5, nI y1)]) _ _ _ _ hl (okr rfl) (fun _ => rfl) ?_
 rintro m y1 N h hN
 unfold spec_IsQueryFor_B1 at h
 refine ls_seq_k fun K2 hK2 => rn 1 rfl ?_
 rcases cond_some h with ⟨g3, h⟩ | ⟨g3, h⟩
 ·refine qT rfl g3 (ls_skip (hK2 _ (ls_seq_k fun K4 hK4 => ls_blk (rd (by kernel_rfl) (sd 4 rfl (?_))))))
  obtain ⟨e5, g6, h⟩ := ob_some h
  refine ed rfl (qI rfl zc109_d g6 (sd 2 rfl (?_)))
  obtain ⟨v7, g8, h⟩ := ob_some h
  refine ed rfl (qC (qa rfl (erg (erc (erD ec114_dd _) rfl)) (qs rfl eran)) (spec_LookupRelation_s g8) (sd 6 rfl (evdn (rd (by kernel_rfl) (sd 3 rfl (?_))))))
  rcases cond_some h with ⟨g9, h⟩ | ⟨g9, h⟩
  ·exact qgd 28 g9 rfl (sd 11 rfl (evdn (qk [2, 3, 5, 39] rfl (qT rfl rfl (rn 1 rfl (ls_ret ((by cases h; cases hr1; exact ⟨.inl rfl, rfl⟩))))))))
  ·refine qgd 28 g9 rfl (sd 5 rfl (?_))
   obtain ⟨e10, g11, h⟩ := ob_some h
   refine ed rfl (oGR rfl rfl (qI rfl zc109_d g11 (sd 5 rfl (evdn ?_))))
   rcases cond_some h with ⟨g12, h⟩ | ⟨g12, h⟩
   ·exact qT rfl g12 (rn 1 rfl (ls_ret ((by cases h; cases hr1; exact ⟨.inl rfl, rfl⟩))))
   ·exact qF rfl g12 (ls_skip (hK4 _ (rg (sp 3 rfl (evn (hN _ _ h (okr rfl)))))))
 ·exact qF rfl g3 (ls_exit (kXB1 (Option.some.inj h) _ (okr rfl)))
def spec_IsPermutation_B1 (a0 : List Int) (rec : Int → Option (Sum (Unit) (Bool))) (y1 : Int) : Option (Sum (Unit) (Bool)) := cond (decide (y1 < (List.length a0 : Int))) (obind (geti a0 y1) fun e5 => obind (spec_l1In e5 0 (IntKind.i64.wrap ((List.length a0 : Int) - 1))) fun v7 => cond (!v7) (some (.inr false)) (chk ((0 : Int) ≤ 0 ∧ 0 ≤ y1 ∧ y1 ≤ (List.length a0 : Int)) (obind (geti a0 y1) fun e11 => obind (spec_l7Find (subl a0 0 y1) e11) fun v13 => cond (decide (0 ≤ v13)) (some (.inr false)) (rec (IntKind.i64.wrap (y1 + 1)))))) (some (.inl ()))
def spec_IsPermutation (a0 : List Int) : Option (Bool) := obind (loopF (spec_IsPermutation_B1 a0) fz 0) fun o1 => (match o1 with
  | .inl _ => (some (decide ((List.length a0 : Int) ≤ 5)))
  | .inr r => some r)
theorem spec_IsPermutation_s {a0 : List Int} {r : Bool} (h : spec_IsPermutation a0 = some r) : SoundAt Tryz.prog 142 [dL ci64 a0] (.bool r) := by
 unfold spec_IsPermutation at h
 refine st lit142 rfl (rn 1 rfl (ls_seq_k fun K1 hK1 => rn 1 rfl ?_))
 obtain ⟨o1, hl, hr1⟩ := ob_some h
 have kXB1 : (.inl ()) = o1 → Jn K1 [(0, dL ci64 a0)] := by
  intro h σ' hk
  subst h
  replace h := hr1
  try dsimp only at h
  exact hK1 _ (lh hk rfl (rn 1 rfl (ls_ret ((by cases h; exact ⟨.inl rfl, rfl⟩)))))
 refine ls_rec (fun (y1 : Int) => [(0, dL ci64 a0), (3, nI y1)]) _ _ _ _ hl (okr rfl) (fun _ => rfl) ?_
 rintro m y1 N h hN
 unfold spec_IsPermutation_B1 at h
 refine ls_seq_k fun K2 hK2 => rn 1 rfl ?_
 rcases cond_some h with ⟨g3, h⟩ | ⟨g3, h⟩
 ·refine qT rfl g3 (ls_skip (hK2 _ (ls_seq_k fun K4 hK4 => ls_blk (rd (by kernel_rfl) (sd 2 rfl (?_))))))
  obtain ⟨e5, g6, h⟩ := ob_some h
  refine ed rfl (qI rfl zci64 g6 (sd 4 rfl (?_)))
  obtain ⟨v7, g8, h⟩ := ob_some h
  refine ed rfl (qC (qs rfl (qs rfl (qs rfl eran))) (spec_l1In_s g8) (sd 2 rfl (?_)))
  rcases cond_some h with ⟨g9, h⟩ | ⟨g9, h⟩
  ·exact qgd 19 g9 rfl (sd 10 rfl (evdn (qT rfl rfl (rn 1 rfl (ls_ret ((by cases h; cases hr1; exact ⟨.inl rfl, rfl⟩)))))))
  ·refine qgd 19 g9 rfl (sd 2 rfl (?_))
   obtain ⟨g10, h⟩ := chk_some h
   refine ed rfl (oGR rfl rfl (qSl rfl zci64 g10 (sd 2 rfl (?_))))
   obtain ⟨e11, g12, h⟩ := ob_some h
   refine ed rfl (oGR rfl rfl (qI rfl zci64 g12 (sd 1 rfl (?_))))
   obtain ⟨v13, g14, h⟩ := ob_some h
   refine ed rfl (oGR rfl rfl (qC (qa rfl (erD eci64 _) (qs rfl eran)) (spec_l7Find_s g14) (sd 2 rfl (evdn (qk [0, 3, 29] rfl ?_)))))
   rcases cond_some h with ⟨g15, h⟩ | ⟨g15, h⟩
   ·exact qT rfl g15 (rn 1 rfl (ls_ret ((by cases h; cases hr1; exact ⟨.inl rfl, rfl⟩))))
   ·exact qF rfl g15 (ls_skip (hK4 _ (rg (sp 3 rfl (evn (hN _ _ h (okr rfl)))))))
 ·exact qF rfl g3 (ls_exit (kXB1 (Option.some.inj h) _ (okr rfl)))
def spec_IsValidOrder_J1 (x2 : Bool) : Option (Bool) := some x2
def spec_IsValidOrder (a0 : Y29) (a1 : List Int) : Option (Bool) := obind (spec_IsValidQuery a0) fun v3 => cond v3 (cond ((List.length a1 : Int) == a0.1) (obind (spec_IsPermutation a1) fun v7 => spec_IsValidOrder_J1 v7) (spec_IsValidOrder_J1 false)) (spec_IsValidOrder_J1 false)
theorem spec_IsValidOrder_s {a0 : Y29} {a1 : List Int} {r : Bool} (h : spec_IsValidOrder a0 a1 = some r) : SoundAt Tryz.prog 103 [.agg (c30_ddd a0), dL ci64 a1] (.bool r) := by
 unfold spec_IsValidOrder at h
 refine st lit103 rfl (rn 1 rfl (rk fun K1 hK1 => ?_))
 have kJ1 : ∀ {x2 : Bool}, spec_IsValidOrder_J1 x2 = some r → Jn K1 [(4, .bool x2)] := by
  intro x2 h σ' hk
  unfold spec_IsValidOrder_J1 at h
  exact hK1 _ (lh hk rfl (ls_ret ((by cases h; exact ⟨.inl rfl, rfl⟩))))
 refine sp 1 rfl (?_)
 obtain ⟨v3, g4, h⟩ := ob_some h
 refine qC (qa rfl (erg (erc rfl (erc (erD ec109_d _) (erc (erD eci64 _) rfl)))) eran) (spec_IsValidQuery_s g4) (sp 1 rfl (?_))
 rcases cond_some h with ⟨g5, h⟩ | ⟨g5, h⟩
 ·refine qg 7 g5 rfl (sp 7 rfl (?_))
  rcases cond_some h with ⟨g6, h⟩ | ⟨g6, h⟩
  ·refine qg 14 g6 rfl (sp 1 rfl (?_))
   obtain ⟨v7, g8, h⟩ := ob_some h
   exact oGR rfl rfl (qC (qa rfl (erD eci64 _) eran) (spec_IsPermutation_s g8) (sp 2 rfl (evn (kJ1 h _ (okr rfl)))))
  ·exact qg 14 g6 rfl (sp 4 rfl (evn (kJ1 h _ (okr rfl))))
 ·exact qg 7 g5 rfl (sp 11 rfl (evn (kJ1 h _ (okr rfl))))
def spec_l5Sort_J5 (rec : ((List (List Int)) × (List (List Int)) × (List (List Int))) → Option ((List (List Int)))) (y3 : List (List Int)) (x18 : List (List Int)) (x19 : List (List Int)) (x20 : List Int) (x22 : Bool) : Option ((List (List Int))) := cond x22 (chk (List.length y3 + List.length [x20] ≤ lim) (rec (x18, x19, (y3 ++ [x20])))) (rec (x18, x19, y3))
def spec_l5Sort_J4 (rec : ((List (List Int)) × (List (List Int)) × (List (List Int))) → Option ((List (List Int)))) (y3 : List (List Int)) (x18 : List (List Int)) (x19 : List (List Int)) (x20 : List Int) : Option ((List (List Int))) := cond ((List.length y3 : Int) == 0) (spec_l5Sort_J5 rec y3 x18 x19 x20 true) (obind (geti y3 (IntKind.i64.wrap ((List.length y3 : Int) - 1))) fun e26 => obind (spec_CompareRows e26 x20) fun v28 => spec_l5Sort_J5 rec y3 x18 x19 x20 (v28 != 0))
def spec_l5Sort_J3 (rec : ((List (List Int)) × (List (List Int)) × (List (List Int))) → Option ((List (List Int)))) (y1 : List (List Int)) (y2 : List (List Int)) (y3 : List (List Int)) (x16 : Int) : Option ((List (List Int))) := cond (decide (0 < x16)) (obind (geti y2 0) fun e31 => chk ((0 : Int) ≤ 1 ∧ 1 ≤ (List.length y2 : Int) ∧ (List.length y2 : Int) ≤ (List.length y2 : Int)) (spec_l5Sort_J4 rec y3 y1 (subl y2 1 (List.length y2 : Int)) e31)) (obind (geti y1 0) fun e34 => chk ((0 : Int) ≤ 1 ∧ 1 ≤ (List.length y1 : Int) ∧ (List.length y1 : Int) ≤ (List.length y1 : Int)) (spec_l5Sort_J4 rec y3 (subl y1 1 (List.length y1 : Int)) y2 e34))
def spec_l5Sort_J2 (rec : ((List (List Int)) × (List (List Int)) × (List (List Int))) → Option ((List (List Int)))) (y1 : List (List Int)) (y2 : List (List Int)) (y3 : List (List Int)) (x13 : Bool) : Option ((List (List Int))) := cond x13 (cond ((List.length y1 : Int) == 0) (spec_l5Sort_J3 rec y1 y2 y3 1) (cond (decide (0 < (List.length y2 : Int))) (obind (geti y1 0) fun e39 => obind (geti y2 0) fun e41 => obind (spec_CompareRows e39 e41) fun v43 => spec_l5Sort_J3 rec y1 y2 y3 v43) (spec_l5Sort_J3 rec y1 y2 y3 (-1)))) (some y3)
def spec_l5Sort_B1  (rec : ((List (List Int)) × (List (List Int)) × (List (List Int))) → Option ((List (List Int)))) (s : (List (List Int)) × (List (List Int)) × (List (List Int))) : Option ((List (List Int))) := match s with
  | (y1, y2, y3) => cond (decide (0 < (List.length y1 : Int))) (spec_l5Sort_J2 rec y1 y2 y3 true) (spec_l5Sort_J2 rec y1 y2 y3 (decide (0 < (List.length y2 : Int))))
def spec_l5Sort_R (rec : ((List (List Int))) → Option ((List (List Int)))) (a0 : (List (List Int))) : Option ((List (List Int))) := cond (decide ((List.length a0 : Int) < 2)) (some a0) (chk ((0 : Int) ≤ 0 ∧ 0 ≤ IntKind.i64.wrap (Int.tdiv (List.length a0 : Int) 2) ∧ IntKind.i64.wrap (Int.tdiv (List.length a0 : Int) 2) ≤ (List.length a0 : Int)) (obind (rec (subl a0 0 (IntKind.i64.wrap (Int.tdiv (List.length a0 : Int) 2)))) fun v4 => chk ((0 : Int) ≤ IntKind.i64.wrap (Int.tdiv (List.length a0 : Int) 2) ∧ IntKind.i64.wrap (Int.tdiv (List.length a0 : Int) 2) ≤ (List.length a0 : Int) ∧ (List.length a0 : Int) ≤ (List.length a0 : Int)) (obind (rec (subl a0 (IntKind.i64.wrap (Int.tdiv (List.length a0 : Int) 2)) (List.length a0 : Int))) fun v7 => obind (loopF spec_l5Sort_B1 fz (v4, v7, ([] : List (List Int)))) fun z10 => some z10)))
def spec_l5Sort (a0 : List (List Int)) : Option ((List (List Int))) := loopF spec_l5Sort_R fz a0
theorem spec_l5Sort_s {a0 : List (List Int)} {r : (List (List Int))} (h : spec_l5Sort a0 = some r) : SoundAt Tryz.prog 156 [dL c27_d a0] (dL c27_d r) := by
 suffices key : ∀ mF (a0 : List (List Int)) (r : (List (List Int))), loopF spec_l5Sort_R mF a0 = some r → SoundAt Tryz.prog 156 [dL c27_d a0] (dL c27_d r) from key fz a0 r h
 intro mF
 induction mF with
 | zero => intro a0 r h; cases h
 | succ mF ih0 =>
  intro a0 r h
  have ih : ∀ {a0 : List (List Int)} {r : (List (List Int))}, loopF spec_l5Sort_R mF a0 = some r → SoundAt Tryz.prog 156 [dL c27_d a0] (dL c27_d r) := fun h => ih0 _ _ h
  change spec_l5Sort_R (loopF spec_l5Sort_R mF) a0 = some r at h
  unfold spec_l5Sort_R at h
  try dsimp only at h
  refine st lit156 rfl (rn 1 rfl (ls_seq_k fun K1 hK1 => rn 1 rfl ?_))
  rcases cond_some h with ⟨g2, h⟩ | ⟨g2, h⟩
  ·exact qT rfl g2 (rn 1 rfl (ls_ret ((by cases h; exact ⟨.inl rfl, rfl⟩))))
  ·refine qF rfl g2 (ls_skip (hK1 _ (rn 1 rfl (rs (sp 2 rfl (?_))))))
   obtain ⟨g3, h⟩ := chk_some h
   refine qSl rfl zc27_d g3 (?_)
   obtain ⟨v4, g5, h⟩ := ob_some h
   refine qC (qa rfl (erD ec27_d _) eran) (ih g5) (sp 1 rfl (evn (rs (sp 2 rfl (?_)))))
   obtain ⟨g6, h⟩ := chk_some h
   refine qSl rfl zc27_d g6 (?_)
   obtain ⟨v7, g8, h⟩ := ob_some h
   refine qC (qa rfl (erD ec27_d _) eran) (ih g8) (sp 1 rfl (evn (qk [4, 5] rfl (rs (qBs c27_o [] rfl rfl rfl zc27_o (sp 1 rfl (evn (ls_seq_k fun K9 hK9 => ?_))))))))
   obtain ⟨o1, hl, hr1⟩ := ob_some h
   have kXB1 : ∀ {z10 : List (List Int)}, z10 = o1 → Jn K9 [(6, oL 27 c27_d z10)] := by
    intro z10 h σ' hk
    subst h
    replace h := hr1
    try dsimp only at h
    exact hK9 _ (lh hk rfl (rn 1 rfl (ls_keep [(2, dL c27_d z10)] ⟨(ke rfl (erO ec27_d _)), trivial⟩ rfl (ls_ret ((by cases h; exact ⟨.inl rfl, rfl⟩))))))
   refine ls_rec (fun (s : (List (List Int)) × (List (List Int)) × (List (List Int))) => match s with | (y1, y2, y3) => [(4, dL c27_d y1), (5, dL c27_d y2), (6, oL 27 c27_d y3)]) _ _ _ _ hl (okr rfl) (fun _ => rfl) ?_
   rintro m ⟨y1, y2, y3⟩ N h hN
   unfold spec_l5Sort_B1 at h
   dsimp only at h
   refine ls_seq_k fun K11 hK11 => rk fun K12 hK12 => ?_
   have kJ2 : ∀ {x13 : Bool}, spec_l5Sort_J2 (loopF spec_l5Sort_B1 m) y1 y2 y3 x13 = some o1 → Jn K12 [(4, dL c27_d y1), (5, dL c27_d y2), (6, oL 27 c27_d y3), (32, .bool x13)] := by
    intro x13 h σ' hk
    unfold spec_l5Sort_J2 at h
    refine hK12 _ (lh hk rfl ?_)
    rcases cond_some h with ⟨g14, h⟩ | ⟨g14, h⟩
    ·refine qT rfl g14 (ls_skip (hK11 _ (ls_blk (rn 1 rfl (ls_seq_k fun K15 hK15 => ls_blk (rn 1 rfl ?_))))))
     have kJ3 : ∀ {x16 : Int}, spec_l5Sort_J3 (loopF spec_l5Sort_B1 m) y1 y2 y3 x16 = some o1 → Jn K15 [(4, dL c27_d y1), (5, dL c27_d y2), (6, oL 27 c27_d y3), (7, nI x16)] := by
      intro x16 h σ' hk
      unfold spec_l5Sort_J3 at h
      refine hK15 _ (lh hk rfl (rs (qBs ci64 [] rfl rfl rfl zci64 (sp 1 rfl (evn (ls_seq_k fun K17 hK17 => rn 1 rfl ?_))))))
      have kJ4 : ∀ {x18 : List (List Int)} {x19 : List (List Int)} {x20 : List Int}, spec_l5Sort_J4 (loopF spec_l5Sort_B1 m) y3 x18 x19 x20 = some o1 → Jn K17 [(4, dL c27_d x18), (5, dL c27_d x19), (6, oL 27 c27_d y3), (8, dL ci64 x20)] := by
       intro x18 x19 x20 h σ' hk
       unfold spec_l5Sort_J4 at h
       refine hK17 _ (lh hk rfl (rk fun K21 hK21 => ?_))
       have kJ5 : ∀ {x22 : Bool}, spec_l5Sort_J5 (loopF spec_l5Sort_B1 m) y3 x18 x19 x20 x22 = some o1 → Jn K21 [(4, dL c27_d x18), (5, dL c27_d x19), (6, oL 27 c27_d y3), (8, dL ci64 x20), (74, .bool x22)] := by
        intro x22 h σ' hk
        unfold spec_l5Sort_J5 at h
        refine hK21 _ (lh hk rfl ?_)
        rcases cond_some h with ⟨g23, h⟩ | ⟨g23, h⟩
        ·refine qT rfl g23 (rg (sp 2 rfl (qBs c27_d [x20] rfl rfl rfl zc27_d (?_))))
         obtain ⟨g24, h⟩ := chk_some h
         exact qA c27_d y3 [x20] rfl rfl (flat_len zc27_d [x20]) rfl g24 (sp 1 rfl (evn (hN _ _ h (okr rfl))))
        ·exact qF rfl g23 (ls_skip (hN _ _ h (okr rfl)))
       refine sp 4 rfl (?_)
       rcases cond_some h with ⟨g25, h⟩ | ⟨g25, h⟩
       ·exact qg 64 g25 rfl (sp 10 rfl (evn (kJ5 h _ (okr rfl))))
       ·refine qg 64 g25 rfl (sp 4 rfl (?_))
        obtain ⟨e26, g27, h⟩ := ob_some h
        refine oGR rfl rfl (qI rfl zc27_d g27 (sp 2 rfl (?_)))
        obtain ⟨v28, g29, h⟩ := ob_some h
        exact oGR rfl rfl (qC (qa rfl (erD eci64 _) (qa rfl (erD eci64 _) eran)) (spec_CompareRows_s g29) (sp 2 rfl (evn (kJ5 h _ (okr rfl)))))
      rcases cond_some h with ⟨g30, h⟩ | ⟨g30, h⟩
      ·refine qT rfl g30 (rs (sp 1 rfl (?_)))
       obtain ⟨e31, g32, h⟩ := ob_some h
       refine qI rfl zc27_d g32 (sp 2 rfl (evn (qk [4, 5, 6, 8] rfl (rg (sp 1 rfl (?_))))))
       obtain ⟨g33, h⟩ := chk_some h
       exact qSl rfl zc27_d g33 (sp 1 rfl (evn (kJ4 h _ (okr rfl))))
      ·refine qF rfl g30 (rs (sp 1 rfl (?_)))
       obtain ⟨e34, g35, h⟩ := ob_some h
       refine qI rfl zc27_d g35 (sp 2 rfl (evn (rg (sp 1 rfl (?_)))))
       obtain ⟨g36, h⟩ := chk_some h
       exact qSl rfl zc27_d g36 (sp 1 rfl (evn (kJ4 h _ (okr rfl))))
     rcases cond_some h with ⟨g37, h⟩ | ⟨g37, h⟩
     ·exact qT rfl g37 (rg (sp 1 rfl (evn (kJ3 h _ (okr rfl)))))
     ·refine qF rfl g37 (rn 1 rfl ?_)
      rcases cond_some h with ⟨g38, h⟩ | ⟨g38, h⟩
      ·refine qT rfl g38 (rgd (by kernel_rfl) (sd 1 rfl (?_)))
       obtain ⟨e39, g40, h⟩ := ob_some h
       refine ed rfl (qI rfl zc27_d g40 (sd 2 rfl (?_)))
       obtain ⟨e41, g42, h⟩ := ob_some h
       refine ed rfl (qI rfl zc27_d g42 (sd 1 rfl (?_)))
       obtain ⟨v43, g44, h⟩ := ob_some h
       exact ed rfl (qC (qa rfl (erD eci64 _) (qa rfl (erD eci64 _) eran)) (spec_CompareRows_s g44) (sd 1 rfl (evdn (kJ3 h _ (okr rfl)))))
      ·exact qF rfl g38 (rg (sp 1 rfl (evn (kJ3 h _ (okr rfl)))))
    ·exact qF rfl g14 (ls_exit (kXB1 (Option.some.inj h) _ (okr rfl)))
   refine sp 4 rfl (?_)
   rcases cond_some h with ⟨g45, h⟩ | ⟨g45, h⟩
   ·exact qg 28 g45 rfl (sp 4 rfl (evn (kJ2 h _ (okr rfl))))
   ·exact qg 28 g45 rfl (sp 4 rfl (evn (kJ2 h _ (okr rfl))))
def spec_NewRelation_B1 (a0 : Int) (a1 : List (List Int)) (rec : Int → Option (Sum (Unit) (Y40 × Bool))) (y1 : Int) : Option (Sum (Unit) (Y40 × Bool)) := cond (decide (y1 < (List.length a1 : Int))) (obind (geti a1 y1) fun e5 => cond ((List.length e5 : Int) != a0) (some (.inr ((0, []), false))) (obind (geti a1 y1) fun e8 => obind (spec_AreValidValues e8) fun v10 => cond (!v10) (some (.inr ((0, []), false))) (rec (IntKind.i64.wrap (y1 + 1))))) (some (.inl ()))
def spec_NewRelation (a0 : Int) (a1 : List (List Int)) : Option (Y40 × Bool) := obind (loopF (spec_NewRelation_B1 a0 a1) fz 0) fun o1 => (match o1 with
  | .inl _ => (obind (spec_l5Sort a1) fun v13 => obind (spec_l5Copy (a0, v13)) fun v15 => obind (spec_IsValidRelation v15) fun v18 => cond (!v18) (some ((0, []), false)) (some (v15, true)))
  | .inr r => some r)
theorem spec_NewRelation_s {a0 : Int} {a1 : List (List Int)} {r : Y40 × Bool} (h : spec_NewRelation a0 a1 = some r) : SoundAt Tryz.prog 113 [nI a0, dL c27_d a1] (.tup [.agg (c41_oo r.1), .bool r.2]) := by
 unfold spec_NewRelation at h
 refine st lit113 rfl (rn 1 rfl (ls_seq_k fun K1 hK1 => rn 1 rfl ?_))
 obtain ⟨o1, hl, hr1⟩ := ob_some h
 have kXB1 : (.inl ()) = o1 → Jn K1 [(0, nI a0), (1, dL c27_d a1), (4, .box [nI 0, oL 27 c27_o []])] := by
  intro h σ' hk
  subst h
  replace h := hr1
  try dsimp only at h
  refine hK1 _ (lh hk rfl (rs (sp 2 rfl (?_))))
  obtain ⟨v13, g14, h⟩ := ob_some h
  refine qC (qa rfl (erD ec27_d _) eran) (spec_l5Sort_s g14) (sp 1 rfl (?_))
  obtain ⟨v15, g16, h⟩ := ob_some h
  refine qC (qa rfl (erg (erc rfl (erc (erD ec27_d _) rfl))) eran) (spec_l5Copy_s g16) (sp 2 rfl (evn (ls_seq_k fun K17 hK17 => rs (sp 1 rfl (?_)))))
  obtain ⟨v18, g19, h⟩ := ob_some h
  refine qC (qa rfl (erg (erc rfl (erc (erD ec27_o _) rfl))) eran) (spec_IsValidRelation_s g19) (sp 1 rfl (evn ?_))
  rcases cond_some h with ⟨g20, h⟩ | ⟨g20, h⟩
  ·exact qT rfl g20 (rn 1 rfl (ls_ret ((by cases h; exact ⟨.inl rfl, rfl⟩))))
  ·exact qF rfl g20 (ls_skip (hK17 _ (rn 1 rfl (ls_ret ((by cases h; exact ⟨.inl rfl, rfl⟩))))))
 refine ls_rec (fun (y1 : Int) => [(0, nI a0), (1, dL c27_d a1), (4, .box [nI 0, oL 27 c27_o []]), (6, nI y1)]) _ _ _ _ hl (okr rfl) (fun _ => rfl) ?_
 rintro m y1 N h hN
 unfold spec_NewRelation_B1 at h
 refine ls_seq_k fun K2 hK2 => rn 1 rfl ?_
 rcases cond_some h with ⟨g3, h⟩ | ⟨g3, h⟩
 ·refine qT rfl g3 (ls_skip (hK2 _ (ls_seq_k fun K4 hK4 => ls_blk (rs (sp 2 rfl (?_))))))
  obtain ⟨e5, g6, h⟩ := ob_some h
  refine qI rfl zc27_d g6 (sp 5 rfl (?_))
  rcases cond_some h with ⟨g7, h⟩ | ⟨g7, h⟩
  ·exact qg 21 g7 rfl (sp 7 rfl (evn (qT rfl rfl (rn 1 rfl (ls_ret ((by cases h; cases hr1; exact ⟨.inl rfl, rfl⟩)))))))
  ·refine qg 21 g7 rfl (sp 2 rfl (?_))
   obtain ⟨e8, g9, h⟩ := ob_some h
   refine oGR rfl rfl (qI rfl zc27_d g9 (sp 1 rfl (?_)))
   obtain ⟨v10, g11, h⟩ := ob_some h
   refine oGR rfl rfl (qC (qa rfl (erD eci64 _) eran) (spec_AreValidValues_s g11) (sp 2 rfl (evn (qk [0, 1, 4, 6, 28] rfl ?_))))
   rcases cond_some h with ⟨g12, h⟩ | ⟨g12, h⟩
   ·exact qT rfl g12 (rn 1 rfl (ls_ret ((by cases h; cases hr1; exact ⟨.inl rfl, rfl⟩))))
   ·exact qF rfl g12 (ls_skip (hK4 _ (rg (sp 3 rfl (evn (hN _ _ h (okr rfl)))))))
 ·exact qF rfl g3 (ls_exit (kXB1 (Option.some.inj h) _ (okr rfl)))
def spec_l5Cols_B1 (a0 : List Int) (a1 : List Int) (rec : ((List Int) × Int) → Option ((List Int))) (s : (List Int) × Int) : Option ((List Int)) := match s with
  | (y1, y2) => cond (decide (y2 < (List.length a1 : Int))) (obind (geti a1 y2) fun e6 => obind (geti a0 e6) fun e8 => chk (List.length y1 + List.length [e8] ≤ lim) (rec ((y1 ++ [e8]), (IntKind.i64.wrap (y2 + 1))))) (some y1)
def spec_l5Cols (a0 : List Int) (a1 : List Int) : Option ((List Int)) := obind (loopF (spec_l5Cols_B1 a0 a1) fz (([] : List Int), 0)) fun z2 => some z2
theorem spec_l5Cols_s {a0 : List Int} {a1 : List Int} {r : (List Int)} (h : spec_l5Cols a0 a1 = some r) : SoundAt Tryz.prog 188 [dL ci64 a0, dL ci64 a1] (oL 3 ci64 r) := by
 unfold spec_l5Cols at h
 refine st lit188 rfl (rn 1 rfl (rs (qBs ci64 [] rfl rfl rfl zci64 (sp 1 rfl (evn (ls_seq_k fun K1 hK1 => rn 1 rfl ?_))))))
 obtain ⟨o1, hl, hr1⟩ := ob_some h
 have kXB1 : ∀ {z2 : List Int}, z2 = o1 → Jn K1 [(5, oL 3 ci64 z2)] := by
  intro z2 h σ' hk
  subst h
  replace h := hr1
  try dsimp only at h
  exact hK1 _ (lh hk rfl (rn 1 rfl (ls_ret ((by cases h; exact ⟨.inl rfl, rfl⟩)))))
 refine ls_rec (fun (s : (List Int) × Int) => match s with | (y1, y2) => [(0, dL ci64 a0), (1, dL ci64 a1), (5, oL 3 ci64 y1), (6, nI y2)]) _ _ _ _ hl (okr rfl) (fun _ => rfl) ?_
 rintro m ⟨y1, y2⟩ N h hN
 unfold spec_l5Cols_B1 at h
 dsimp only at h
 refine ls_seq_k fun K3 hK3 => rn 1 rfl ?_
 rcases cond_some h with ⟨g4, h⟩ | ⟨g4, h⟩
 ·refine qT rfl g4 (ls_skip (hK3 _ (ls_seq_k fun K5 hK5 => ls_blk (rg (sp 4 rfl (?_))))))
  obtain ⟨e6, g7, h⟩ := ob_some h
  refine qI rfl zci64 g7 (sp 1 rfl (?_))
  obtain ⟨e8, g9, h⟩ := ob_some h
  refine qI rfl zci64 g9 (sp 1 rfl (qBs ci64 [e8] rfl rfl rfl zci64 (?_)))
  obtain ⟨g10, h⟩ := chk_some h
  exact qA ci64 y1 [e8] rfl rfl (flat_len zci64 [e8]) rfl g10 (sp 1 rfl (evn (hK5 _ (rg (sp 3 rfl (evn (hN _ _ h (okr rfl))))))))
 ·exact qF rfl g4 (ls_exit (kXB1 (Option.some.inj h) _ (okr rfl)))
def spec_Project_B1 (a0 : Y40) (a1 : List Int) (rec : Int → Option (Sum (Unit) (Y40 × Bool))) (y1 : Int) : Option (Sum (Unit) (Y40 × Bool)) := cond (decide (y1 < (List.length a1 : Int))) (obind (geti a1 y1) fun e5 => obind (spec_l1In e5 0 (IntKind.i64.wrap (a0.1 - 1))) fun v7 => cond (!v7) (some (.inr ((0, []), false))) (rec (IntKind.i64.wrap (y1 + 1)))) (some (.inl ()))
def spec_Project_B2 (a0 : Y40) (a1 : List Int) (rec : ((List (List Int)) × Int) → Option ((List (List Int)))) (s : (List (List Int)) × Int) : Option ((List (List Int))) := match s with
  | (y2, y3) => cond (decide (y3 < (List.length a0.2 : Int))) (obind (geti a0.2 y3) fun e20 => obind (spec_l5Cols e20 a1) fun v22 => chk (List.length y2 + List.length [v22] ≤ lim) (rec ((y2 ++ [v22]), (IntKind.i64.wrap (y3 + 1))))) (some y2)
def spec_Project (a0 : Y40) (a1 : List Int) : Option (Y40 × Bool) := obind (loopF (spec_Project_B1 a0 a1) fz 0) fun o1 => (match o1 with
  | .inl _ => (obind (spec_IsValidRelation a0) fun v11 => cond (!v11) (some ((0, []), false)) (cond (decide (5 < (List.length a1 : Int))) (some ((0, []), false)) (obind (loopF (spec_Project_B2 a0 a1) fz (([] : List (List Int)), 0)) fun z16 => obind (spec_NewRelation (List.length a1 : Int) z16) fun v25 => some (v25.1, v25.2))))
  | .inr r => some r)
theorem spec_Project_s {a0 : Y40} {a1 : List Int} {r : Y40 × Bool} (h : spec_Project a0 a1 = some r) : SoundAt Tryz.prog 177 [.agg (c41_dd a0), dL ci64 a1] (.tup [.agg (c41_oo r.1), .bool r.2]) := by
 unfold spec_Project at h
 refine st lit177 rfl (rn 1 rfl (ls_seq_k fun K1 hK1 => rn 1 rfl ?_))
 obtain ⟨o1, hl, hr1⟩ := ob_some h
 have kXB1 : (.inl ()) = o1 → Jn K1 [(1, dL ci64 a1), (2, .box [nI a0.1, dL c27_d a0.2]), (4, .box [nI 0, oL 27 c27_o []])] := by
  intro h σ' hk
  subst h
  replace h := hr1
  try dsimp only at h
  refine hK1 _ (lh hk rfl (ls_seq_k fun K10 hK10 => rs (sp 1 rfl (?_))))
  obtain ⟨v11, g12, h⟩ := ob_some h
  refine qC (qa rfl (erg (erc rfl (erc (erD ec27_d _) rfl))) eran) (spec_IsValidRelation_s g12) (sp 2 rfl (?_))
  rcases cond_some h with ⟨g13, h⟩ | ⟨g13, h⟩
  ·exact qg 30 g13 rfl (sp 4 rfl (evn (qT rfl rfl (rn 1 rfl (ls_ret ((by cases h; exact ⟨.inl rfl, rfl⟩)))))))
  ·refine qg 30 g13 rfl (sp 4 rfl (evn ?_))
   rcases cond_some h with ⟨g14, h⟩ | ⟨g14, h⟩
   ·exact qT rfl g14 (rn 1 rfl (ls_ret ((by cases h; exact ⟨.inl rfl, rfl⟩))))
   ·refine qF rfl g14 (ls_skip (hK10 _ (rs (qBs c27_o [] rfl rfl rfl zc27_o (sp 1 rfl (evn (ls_seq_k fun K15 hK15 => rn 1 rfl (qk [1, 2, 4, 7, 8] rfl ?_))))))))
    obtain ⟨o2, hl, hr2⟩ := ob_some h
    have kXB2 : ∀ {z16 : List (List Int)}, z16 = o2 → Jn K15 [(1, dL ci64 a1), (4, .box [nI 0, oL 27 c27_o []]), (7, oL 27 c27_o z16)] := by
     intro z16 h σ' hk
     subst h
     replace h := hr2
     try dsimp only at h
     refine hK15 _ (lh hk rfl (rs (sp 3 rfl (?_))))
     obtain ⟨v25, g26, h⟩ := ob_some h
     exact qC (qs rfl (qa rfl (erD ec27_o _) eran)) (spec_NewRelation_s g26) (sp 6 rfl (evn (rn 1 rfl (ls_ret ((by cases h; exact ⟨.inl rfl, rfl⟩))))))
    refine ls_rec (fun (s : (List (List Int)) × Int) => match s with | (y2, y3) => [(1, dL ci64 a1), (2, .box [nI a0.1, dL c27_d a0.2]), (4, .box [nI 0, oL 27 c27_o []]), (7, oL 27 c27_o y2), (8, nI y3)]) _ _ _ _ hl (okr rfl) (fun _ => rfl) ?_
    rintro m ⟨y2, y3⟩ N h hN
    unfold spec_Project_B2 at h
    dsimp only at h
    refine ls_seq_k fun K17 hK17 => rn 1 rfl ?_
    rcases cond_some h with ⟨g18, h⟩ | ⟨g18, h⟩
    ·refine qT rfl g18 (ls_skip (hK17 _ (ls_seq_k fun K19 hK19 => ls_blk (rg (sp 4 rfl (?_))))))
     obtain ⟨e20, g21, h⟩ := ob_some h
     refine qI rfl zc27_d g21 (sp 2 rfl (?_))
     obtain ⟨v22, g23, h⟩ := ob_some h
     refine qC (qa rfl (erD eci64 _) (qa rfl (erD eci64 _) eran)) (spec_l5Cols_s g23) (qBs c27_o [v22] rfl rfl rfl zc27_o (?_))
     obtain ⟨g24, h⟩ := chk_some h
     exact qA c27_o y2 [v22] rfl rfl (flat_len zc27_o [v22]) rfl g24 (sp 1 rfl (evn (hK19 _ (rg (sp 3 rfl (evn (hN _ _ h (okr rfl))))))))
    ·exact qF rfl g18 (ls_exit (kXB2 (Option.some.inj h) _ (okr rfl)))
 refine ls_rec (fun (y1 : Int) => [(1, dL ci64 a1), (2, .box [nI a0.1, dL c27_d a0.2]), (4, .box [nI 0, oL 27 c27_o []]), (6, nI y1)]) _ _ _ _ hl (okr rfl) (fun _ => rfl) ?_
 rintro m y1 N h hN
 unfold spec_Project_B1 at h
 refine ls_seq_k fun K2 hK2 => rn 1 rfl ?_
 rcases cond_some h with ⟨g3, h⟩ | ⟨g3, h⟩
 ·refine qT rfl g3 (ls_skip (hK2 _ (ls_seq_k fun K4 hK4 => ls_blk (rd (by kernel_rfl) (sd 2 rfl (?_))))))
  obtain ⟨e5, g6, h⟩ := ob_some h
  refine ed rfl (qI rfl zci64 g6 (sd 4 rfl (?_)))
  obtain ⟨v7, g8, h⟩ := ob_some h
  refine ed rfl (qC (qs rfl (qs rfl (qs rfl eran))) (spec_l1In_s g8) (sd 1 rfl (evdn ?_)))
  rcases cond_some h with ⟨g9, h⟩ | ⟨g9, h⟩
  ·exact qT rfl g9 (rn 1 rfl (ls_ret ((by cases h; cases hr1; exact ⟨.inl rfl, rfl⟩))))
  ·exact qF rfl g9 (ls_skip (hK4 _ (rg (sp 3 rfl (evn (hN _ _ h (okr rfl)))))))
 ·exact qF rfl g3 (ls_exit (kXB1 (Option.some.inj h) _ (okr rfl)))
def spec_BuildTrie (a0 : Y40) (a1 : List Int) : Option (Y40 × Bool) := obind (spec_IsPermutation a1) fun v2 => cond (!v2) (some ((0, []), false)) (cond ((List.length a1 : Int) != a0.1) (some ((0, []), false)) (obind (spec_Project a0 a1) fun v6 => cond (!v6.2) (some ((0, []), false)) (some (v6.1, true))))
theorem spec_BuildTrie_s {a0 : Y40} {a1 : List Int} {r : Y40 × Bool} (h : spec_BuildTrie a0 a1 = some r) : SoundAt Tryz.prog 152 [.agg (c41_dd a0), dL ci64 a1] (.tup [.agg (c179_oo r.1), .bool r.2]) := by
 unfold spec_BuildTrie at h
 refine st lit152 rfl (rn 1 rfl (ls_seq_k fun K1 hK1 => rs (sp 1 rfl (?_))))
 obtain ⟨v2, g3, h⟩ := ob_some h
 refine qC (qa rfl (erD eci64 _) eran) (spec_IsPermutation_s g3) (sp 2 rfl (?_))
 rcases cond_some h with ⟨g4, h⟩ | ⟨g4, h⟩
 ·exact qg 11 g4 rfl (sp 6 rfl (evn (qT rfl rfl (rn 1 rfl (ls_ret ((by cases h; exact ⟨.inl rfl, rfl⟩)))))))
 ·refine qg 11 g4 rfl (sp 6 rfl (evn ?_))
  rcases cond_some h with ⟨g5, h⟩ | ⟨g5, h⟩
  ·exact qT rfl g5 (rn 1 rfl (ls_ret ((by cases h; exact ⟨.inl rfl, rfl⟩))))
  ·refine qF rfl g5 (ls_skip (hK1 _ (qk [1, 2, 4] rfl (rs (sp 2 rfl (?_))))))
   obtain ⟨v6, g7, h⟩ := ob_some h
   refine qC (qa rfl (erg (erc rfl (erc (erD ec27_d _) rfl))) (qa rfl (erD eci64 _) eran)) (spec_Project_s g7) (sp 6 rfl (evn (ls_seq_k fun K8 hK8 => rn 1 rfl ?_)))
   rcases cond_some h with ⟨g9, h⟩ | ⟨g9, h⟩
   ·exact qT rfl g9 (rn 1 rfl (ls_ret ((by cases h; exact ⟨.inl rfl, rfl⟩))))
   ·exact qF rfl g9 (ls_skip (hK8 _ (rn 1 rfl (ls_ret ((by cases h; exact ⟨.inl rfl, rfl⟩))))))
def spec_AtomVariables_J2 (rec : ((List Int) × Int) → Option ((List Int))) (y2 : Int) (x8 : List Int) : Option ((List Int)) := rec (x8, (IntKind.i64.wrap (y2 + 1)))
def spec_AtomVariables_B1 (a0 : Y108) (rec : ((List Int) × Int) → Option ((List Int))) (s : (List Int) × Int) : Option ((List Int)) := match s with
  | (y1, y2) => cond (decide (y2 < 5)) (obind (spec_ContainsVariable a0 y2) fun v6 => cond v6 (chk (List.length y1 + List.length [y2] ≤ lim) (spec_AtomVariables_J2 rec y2 (y1 ++ [y2]))) (spec_AtomVariables_J2 rec y2 y1)) (some y1)
def spec_AtomVariables (a0 : Y108) : Option ((List Int)) := obind (loopF (spec_AtomVariables_B1 a0) fz (([] : List Int), 0)) fun z2 => some z2
theorem spec_AtomVariables_s {a0 : Y108} {r : (List Int)} (h : spec_AtomVariables a0 = some r) : SoundAt Tryz.prog 178 [.agg (c109_d a0)] (oL 3 ci64 r) := by
 unfold spec_AtomVariables at h
 refine st lit178 rfl (rn 1 rfl (rs (qBs ci64 [] rfl rfl rfl zci64 (sp 1 rfl (evn (ls_seq_k fun K1 hK1 => rn 1 rfl ?_))))))
 obtain ⟨o1, hl, hr1⟩ := ob_some h
 have kXB1 : ∀ {z2 : List Int}, z2 = o1 → Jn K1 [(3, oL 3 ci64 z2)] := by
  intro z2 h σ' hk
  subst h
  replace h := hr1
  try dsimp only at h
  exact hK1 _ (lh hk rfl (rn 1 rfl (ls_ret ((by cases h; exact ⟨.inl rfl, rfl⟩)))))
 refine ls_rec (fun (s : (List Int) × Int) => match s with | (y1, y2) => [(1, .box [.str a0.1, dL ci64 a0.2]), (3, oL 3 ci64 y1), (4, nI y2)]) _ _ _ _ hl (okr rfl) (fun _ => rfl) ?_
 rintro m ⟨y1, y2⟩ N h hN
 unfold spec_AtomVariables_B1 at h
 dsimp only at h
 refine ls_seq_k fun K3 hK3 => rn 1 rfl ?_
 rcases cond_some h with ⟨g4, h⟩ | ⟨g4, h⟩
 ·refine qT rfl g4 (ls_skip (hK3 _ (ls_seq_k fun K5 hK5 => ls_blk (rs (sp 2 rfl (?_))))))
  obtain ⟨v6, g7, h⟩ := ob_some h
  refine qC (qa rfl (erg (erc rfl (erc (erD eci64 _) rfl))) (qs rfl eran)) (spec_ContainsVariable_s g7) (evn ?_)
  have kJ2 : ∀ {x8 : List Int}, spec_AtomVariables_J2 (loopF (spec_AtomVariables_B1 a0) m) y2 x8 = some o1 → Jn K5 [(1, .box [.str a0.1, dL ci64 a0.2]), (3, oL 3 ci64 x8), (4, nI y2)] := by
   intro x8 h σ' hk
   unfold spec_AtomVariables_J2 at h
   exact hK5 _ (lh hk rfl (rg (sp 3 rfl (evn (hN _ _ h (okr rfl))))))
  rcases cond_some h with ⟨g9, h⟩ | ⟨g9, h⟩
  ·refine qT rfl g9 (rg (sp 2 rfl (qBs ci64 [y2] rfl rfl rfl zci64 (?_))))
   obtain ⟨g10, h⟩ := chk_some h
   exact qA ci64 y1 [y2] rfl rfl (flat_len zci64 [y2]) rfl g10 (sp 1 rfl (evn (kJ2 h _ (okr rfl))))
  ·exact qF rfl g9 (ls_skip (kJ2 h _ (okr rfl)))
 ·exact qF rfl g4 (ls_exit (kXB1 (Option.some.inj h) _ (okr rfl)))
def spec_AtomBindings_B2 (a1 : Y108) (v1 : (List Int)) (v3 : Y40 × Bool) (y6 : Int) (rec : ((List Int) × Int) → Option ((List Int))) (s : (List Int) × Int) : Option ((List Int)) := match s with
  | (y11, y12) => cond (decide (y12 < (List.length v1 : Int))) (obind (geti v3.1.2 y6) fun e18 => obind (geti v1 y12) fun e20 => obind (spec_l7Find a1.2 e20) fun v22 => obind (geti e18 v22) fun e24 => chk (List.length y11 + List.length [e24] ≤ lim) (rec ((y11 ++ [e24]), (IntKind.i64.wrap (y12 + 1))))) (some y11)
def spec_AtomBindings_J4 (rec : (Bool × Int) → Option (Bool)) (y14 : Int) (x36 : Bool) : Option (Bool) := rec (x36, (IntKind.i64.wrap (y14 + 1)))
def spec_AtomBindings_B3 (a1 : Y108) (v1 : (List Int)) (v3 : Y40 × Bool) (y6 : Int) (z14 : List Int) (rec : (Bool × Int) → Option (Bool)) (s : Bool × Int) : Option (Bool) := match s with
  | (y13, y14) => cond (decide (y14 < (List.length a1.2 : Int))) (obind (geti a1.2 y14) fun e32 => obind (spec_l7Find v1 e32) fun v34 => cond y13 (cond (decide (0 ≤ v34)) (obind (geti z14 v34) fun e39 => obind (geti v3.1.2 y6) fun e41 => obind (geti e41 y14) fun e43 => spec_AtomBindings_J4 rec y14 (e39 == e43)) (spec_AtomBindings_J4 rec y14 false)) (spec_AtomBindings_J4 rec y14 false)) (some y13)
def spec_AtomBindings_J5 (rec : ((List (List Int)) × Int) → Option ((List (List Int)))) (y6 : Int) (x45 : List (List Int)) : Option ((List (List Int))) := rec (x45, (IntKind.i64.wrap (y6 + 1)))
def spec_AtomBindings_B1 (a1 : Y108) (v1 : (List Int)) (v3 : Y40 × Bool) (rec : ((List (List Int)) × Int) → Option ((List (List Int)))) (s : (List (List Int)) × Int) : Option ((List (List Int))) := match s with
  | (y5, y6) => cond (decide (y6 < (List.length v3.1.2 : Int))) (obind (loopF (spec_AtomBindings_B2 a1 v1 v3 y6) fz (([] : List Int), 0)) fun z14 => obind (loopF (spec_AtomBindings_B3 a1 v1 v3 y6 z14) fz (true, 0)) fun z28 => cond z28 (chk (List.length y5 + List.length [z14] ≤ lim) (spec_AtomBindings_J5 rec y6 (y5 ++ [z14]))) (spec_AtomBindings_J5 rec y6 y5)) (some y5)
def spec_AtomBindings (a0 : List Y113) (a1 : Y108) : Option (Y40) := obind (spec_AtomVariables a1) fun v1 => obind (spec_LookupRelation a0 a1.1) fun v3 => cond (!v3.2) (some ((List.length v1 : Int), [])) (cond (v3.1.1 != (List.length a1.2 : Int)) (some ((List.length v1 : Int), [])) (obind (loopF (spec_AtomBindings_B1 a1 v1 v3) fz (([] : List (List Int)), 0)) fun z9 => obind (spec_NewRelation (List.length v1 : Int) z9) fun v48 => cond (!v48.2) (some ((List.length v1 : Int), [])) (some v48.1)))
theorem spec_AtomBindings_s {a0 : List Y113} {a1 : Y108} {r : Y40} (h : spec_AtomBindings a0 a1 = some r) : SoundAt Tryz.prog 153 [.agg [dL c114_dd a0], .agg (c109_d a1)] (.agg (c41_oo r)) := by
 unfold spec_AtomBindings at h
 refine st lit153 rfl (rn 1 rfl (rs (sp 1 rfl (?_))))
 obtain ⟨v1, g2, h⟩ := ob_some h
 refine qC (qa rfl (erg (erc rfl (erc (erD eci64 _) rfl))) eran) (spec_AtomVariables_s g2) (sp 1 rfl (evn (rs (sp 3 rfl (?_)))))
 obtain ⟨v3, g4, h⟩ := ob_some h
 refine qC (qa rfl (erg (erc (erD ec114_dd _) rfl)) (qs rfl eran)) (spec_LookupRelation_s g4) (sp 6 rfl (evn (rn 1 rfl (ls_seq_k fun K5 hK5 => rs (sp 3 rfl (?_))))))
 rcases cond_some h with ⟨g6, h⟩ | ⟨g6, h⟩
 ·exact qg 32 g6 rfl (sp 7 rfl (evn (qT rfl rfl (rn 1 rfl (qk [4] rfl (ls_ret ((by cases h; exact ⟨.inl rfl, rfl⟩))))))))
 ·refine qg 32 g6 rfl (sp 7 rfl (evn ?_))
  rcases cond_some h with ⟨g7, h⟩ | ⟨g7, h⟩
  ·exact qT rfl g7 (rn 1 rfl (ls_ret ((by cases h; exact ⟨.inl rfl, rfl⟩))))
  ·refine qF rfl g7 (ls_skip (hK5 _ (rs (qBs c27_o [] rfl rfl rfl zc27_o (sp 1 rfl (evn (ls_seq_k fun K8 hK8 => rn 1 rfl ?_)))))))
   obtain ⟨o1, hl, hr1⟩ := ob_some h
   have kXB1 : ∀ {z9 : List (List Int)}, z9 = o1 → Jn K8 [(4, .box [nI 0, oL 27 c27_o []]), (5, oL 3 ci64 v1), (8, .box [nI (List.length v1 : Int), oL 27 c27_o []]), (9, oL 27 c27_o z9)] := by
    intro z9 h σ' hk
    subst h
    replace h := hr1
    try dsimp only at h
    refine hK8 _ (lh hk rfl (rs (sp 3 rfl (?_))))
    obtain ⟨v48, g49, h⟩ := ob_some h
    refine qC (qs rfl (qa rfl (erD ec27_o _) eran)) (spec_NewRelation_s g49) (sp 6 rfl (evn (ls_seq_k fun K50 hK50 => rn 1 rfl ?_)))
    rcases cond_some h with ⟨g51, h⟩ | ⟨g51, h⟩
    ·exact qT rfl g51 (rn 1 rfl (ls_ret ((by cases h; exact ⟨.inl rfl, rfl⟩))))
    ·exact qF rfl g51 (ls_skip (hK50 _ (rn 1 rfl (ls_ret ((by cases h; exact ⟨.inl rfl, rfl⟩))))))
   refine ls_rec (fun (s : (List (List Int)) × Int) => match s with | (y5, y6) => [(3, .box [.str a1.1, dL ci64 a1.2]), (4, .box [nI 0, oL 27 c27_o []]), (5, oL 3 ci64 v1), (6, .box [nI v3.1.1, oL 27 c27_o v3.1.2]), (8, .box [nI (List.length v1 : Int), oL 27 c27_o []]), (9, oL 27 c27_o y5), (10, nI y6)]) _ _ _ _ hl (okr rfl) (fun _ => rfl) ?_
   rintro m ⟨y5, y6⟩ N h hN
   unfold spec_AtomBindings_B1 at h
   dsimp only at h
   refine ls_seq_k fun K10 hK10 => rn 1 rfl ?_
   rcases cond_some h with ⟨g11, h⟩ | ⟨g11, h⟩
   ·refine qT rfl g11 (ls_skip (hK10 _ (ls_seq_k fun K12 hK12 => ls_blk (rs (qBs ci64 [] rfl rfl rfl zci64 (sp 1 rfl (evn (ls_seq_k fun K13 hK13 => rn 1 rfl ?_))))))))
    obtain ⟨o2, hl, hr2⟩ := ob_some h
    have kXB2 : ∀ {z14 : List Int}, z14 = o2 → Jn K13 [(3, .box [.str a1.1, dL ci64 a1.2]), (4, .box [nI 0, oL 27 c27_o []]), (5, oL 3 ci64 v1), (6, .box [nI v3.1.1, oL 27 c27_o v3.1.2]), (8, .box [nI (List.length v1 : Int), oL 27 c27_o []]), (9, oL 27 c27_o y5), (10, nI y6), (11, oL 3 ci64 z14)] := by
     intro z14 h σ' hk
     subst h
     replace h := hr2
     try dsimp only at h
     refine hK13 _ (lh hk rfl (rn 1 rfl (ls_seq_k fun K27 hK27 => rn 1 rfl ?_)))
     obtain ⟨o3, hl, hr3⟩ := ob_some h
     have kXB3 : ∀ {z28 : Bool}, z28 = o3 → Jn K27 [(3, .box [.str a1.1, dL ci64 a1.2]), (4, .box [nI 0, oL 27 c27_o []]), (5, oL 3 ci64 v1), (6, .box [nI v3.1.1, oL 27 c27_o v3.1.2]), (8, .box [nI (List.length v1 : Int), oL 27 c27_o []]), (9, oL 27 c27_o y5), (10, nI y6), (11, oL 3 ci64 z14), (13, .bool z28)] := by
      intro z28 h σ' hk
      subst h
      replace h := hr3
      try dsimp only at h
      refine hK27 _ (lh hk rfl (rn 1 rfl ?_))
      have kJ5 : ∀ {x45 : List (List Int)}, spec_AtomBindings_J5 (loopF (spec_AtomBindings_B1 a1 v1 v3) m) y6 x45 = some o1 → Jn K12 [(3, .box [.str a1.1, dL ci64 a1.2]), (4, .box [nI 0, oL 27 c27_o []]), (5, oL 3 ci64 v1), (6, .box [nI v3.1.1, oL 27 c27_o v3.1.2]), (8, .box [nI (List.length v1 : Int), oL 27 c27_o []]), (9, oL 27 c27_o x45), (10, nI y6)] := by
       intro x45 h σ' hk
       unfold spec_AtomBindings_J5 at h
       exact hK12 _ (lh hk rfl (rg (sp 3 rfl (evn (hN _ _ h (okr rfl))))))
      rcases cond_some h with ⟨g46, h⟩ | ⟨g46, h⟩
      ·refine qT rfl g46 (rg (sp 2 rfl (qBs c27_o [z14] rfl rfl rfl zc27_o (?_))))
       obtain ⟨g47, h⟩ := chk_some h
       exact qA c27_o y5 [z14] rfl rfl (flat_len zc27_o [z14]) rfl g47 (sp 1 rfl (evn (kJ5 h _ (okr rfl))))
      ·exact qF rfl g46 (ls_skip (kJ5 h _ (okr rfl)))
     refine ls_rec (fun (s : Bool × Int) => match s with | (y13, y14) => [(3, .box [.str a1.1, dL ci64 a1.2]), (4, .box [nI 0, oL 27 c27_o []]), (5, oL 3 ci64 v1), (6, .box [nI v3.1.1, oL 27 c27_o v3.1.2]), (8, .box [nI (List.length v1 : Int), oL 27 c27_o []]), (9, oL 27 c27_o y5), (10, nI y6), (11, oL 3 ci64 z14), (13, .bool y13), (14, nI y14)]) _ _ _ _ hl (okr rfl) (fun _ => rfl) ?_
     rintro m ⟨y13, y14⟩ N h hN
     unfold spec_AtomBindings_B3 at h
     dsimp only at h
     refine ls_seq_k fun K29 hK29 => rn 1 rfl ?_
     rcases cond_some h with ⟨g30, h⟩ | ⟨g30, h⟩
     ·refine qT rfl g30 (ls_skip (hK29 _ (ls_seq_k fun K31 hK31 => ls_blk (rs (sp 4 rfl (?_))))))
      obtain ⟨e32, g33, h⟩ := ob_some h
      refine qI rfl zci64 g33 (sp 1 rfl (?_))
      obtain ⟨v34, g35, h⟩ := ob_some h
      refine qC (qa rfl (erD eci64 _) (qs rfl eran)) (spec_l7Find_s g35) (sp 1 rfl (evn ?_))
      have kJ4 : ∀ {x36 : Bool}, spec_AtomBindings_J4 (loopF (spec_AtomBindings_B3 a1 v1 v3 y6 z14) m) y14 x36 = some o3 → Jn K31 [(3, .box [.str a1.1, dL ci64 a1.2]), (4, .box [nI 0, oL 27 c27_o []]), (5, oL 3 ci64 v1), (6, .box [nI v3.1.1, oL 27 c27_o v3.1.2]), (8, .box [nI (List.length v1 : Int), oL 27 c27_o []]), (9, oL 27 c27_o y5), (10, nI y6), (11, oL 3 ci64 z14), (13, .bool x36), (14, nI y14)] := by
       intro x36 h σ' hk
       unfold spec_AtomBindings_J4 at h
       exact hK31 _ (lh hk rfl (rg (sp 3 rfl (evn (hN _ _ h (okr rfl))))))
      refine rgd (by kernel_rfl) (sd 2 rfl (?_))
      rcases cond_some h with ⟨g37, h⟩ | ⟨g37, h⟩
      ·refine qgd 88 g37 rfl (sd 4 rfl (?_))
       rcases cond_some h with ⟨g38, h⟩ | ⟨g38, h⟩
       ·refine qgd 92 g38 rfl (sd 2 rfl (?_))
        obtain ⟨e39, g40, h⟩ := ob_some h
        refine ed rfl (oGR rfl rfl (qI rfl zci64 g40 (sd 4 rfl (?_))))
        obtain ⟨e41, g42, h⟩ := ob_some h
        refine ed rfl (oGR rfl rfl (qI rfl zc27_o g42 (sd 2 rfl (?_))))
        obtain ⟨e43, g44, h⟩ := ob_some h
        exact ed rfl (oGR rfl rfl (qI rfl zci64 g44 (sd 4 rfl (evdn (kJ4 h _ (okr rfl))))))
       ·exact qgd 92 g38 rfl (sd 15 rfl (evdn (kJ4 h _ (okr rfl))))
      ·exact qgd 88 g37 rfl (sd 19 rfl (evdn (kJ4 h _ (okr rfl))))
     ·exact qF rfl g30 (ls_exit (kXB3 (Option.some.inj h) _ (okr rfl)))
    refine ls_rec (fun (s : (List Int) × Int) => match s with | (y11, y12) => [(3, .box [.str a1.1, dL ci64 a1.2]), (4, .box [nI 0, oL 27 c27_o []]), (5, oL 3 ci64 v1), (6, .box [nI v3.1.1, oL 27 c27_o v3.1.2]), (8, .box [nI (List.length v1 : Int), oL 27 c27_o []]), (9, oL 27 c27_o y5), (10, nI y6), (11, oL 3 ci64 y11), (12, nI y12)]) _ _ _ _ hl (okr rfl) (fun _ => rfl) ?_
    rintro m ⟨y11, y12⟩ N h hN
    unfold spec_AtomBindings_B2 at h
    dsimp only at h
    refine ls_seq_k fun K15 hK15 => rn 1 rfl ?_
    rcases cond_some h with ⟨g16, h⟩ | ⟨g16, h⟩
    ·refine qT rfl g16 (ls_skip (hK15 _ (ls_seq_k fun K17 hK17 => ls_blk (rgd (by kernel_rfl) (sd 4 rfl (?_))))))
     obtain ⟨e18, g19, h⟩ := ob_some h
     refine ed rfl (qI rfl zc27_o g19 (sd 5 rfl (?_)))
     obtain ⟨e20, g21, h⟩ := ob_some h
     refine ed rfl (qI rfl zci64 g21 (sd 1 rfl (?_)))
     obtain ⟨v22, g23, h⟩ := ob_some h
     refine ed rfl (qC (qa rfl (erD eci64 _) (qs rfl eran)) (spec_l7Find_s g23) (?_))
     obtain ⟨e24, g25, h⟩ := ob_some h
     refine ed rfl (qI rfl zci64 g25 (sd 1 rfl (ed rfl (qBs ci64 [e24] rfl rfl rfl zci64 (?_)))))
     obtain ⟨g26, h⟩ := chk_some h
     exact ed rfl (qA ci64 y11 [e24] rfl rfl (flat_len zci64 [e24]) rfl g26 (sd 1 rfl (evdn (hK17 _ (rg (sp 3 rfl (evn (hN _ _ h (okr rfl)))))))))
    ·exact qF rfl g16 (ls_exit (kXB2 (Option.some.inj h) _ (okr rfl)))
   ·exact qF rfl g11 (ls_exit (kXB1 (Option.some.inj h) _ (okr rfl)))
def spec_ColumnsForOrder_J3 (rec : ((List Int) × Int) → Option ((List Int))) (y2 : Int) (x14 : List Int) : Option ((List Int)) := rec (x14, (IntKind.i64.wrap (y2 + 1)))
def spec_ColumnsForOrder_J2 (rec : ((List Int) × Int) → Option ((List Int))) (y1 : List Int) (y2 : Int) (v10 : Int) (x13 : Bool) : Option ((List Int)) := cond x13 (chk (List.length y1 + List.length [v10] ≤ lim) (spec_ColumnsForOrder_J3 rec y2 (y1 ++ [v10]))) (spec_ColumnsForOrder_J3 rec y2 y1)
def spec_ColumnsForOrder_B1 (a1 : List Int) (v1 : (List Int)) (rec : ((List Int) × Int) → Option ((List Int))) (s : (List Int) × Int) : Option ((List Int)) := match s with
  | (y1, y2) => cond (decide (y2 < (List.length a1 : Int))) (obind (geti a1 y2) fun e8 => obind (spec_l7Find v1 e8) fun v10 => cond (decide (0 ≤ v10)) (obind (spec_l7Find y1 v10) fun v18 => spec_ColumnsForOrder_J2 rec y1 y2 v10 (decide (v18 < 0))) (spec_ColumnsForOrder_J2 rec y1 y2 v10 false)) (some y1)
def spec_ColumnsForOrder (a0 : Y108) (a1 : List Int) : Option ((List Int)) := obind (spec_AtomVariables a0) fun v1 => obind (loopF (spec_ColumnsForOrder_B1 a1 v1) fz (([] : List Int), 0)) fun z4 => some z4
theorem spec_ColumnsForOrder_s {a0 : Y108} {a1 : List Int} {r : (List Int)} (h : spec_ColumnsForOrder a0 a1 = some r) : SoundAt Tryz.prog 154 [.agg (c109_d a0), dL ci64 a1] (oL 3 ci64 r) := by
 unfold spec_ColumnsForOrder at h
 refine st lit154 rfl (rn 1 rfl (rs (sp 1 rfl (?_))))
 obtain ⟨v1, g2, h⟩ := ob_some h
 refine qC (qa rfl (erg (erc rfl (erc (erD eci64 _) rfl))) eran) (spec_AtomVariables_s g2) (sp 1 rfl (evn (rs (qBs ci64 [] rfl rfl rfl zci64 (sp 1 rfl (evn (ls_seq_k fun K3 hK3 => rn 1 rfl ?_)))))))
 obtain ⟨o1, hl, hr1⟩ := ob_some h
 have kXB1 : ∀ {z4 : List Int}, z4 = o1 → Jn K3 [(6, oL 3 ci64 z4)] := by
  intro z4 h σ' hk
  subst h
  replace h := hr1
  try dsimp only at h
  exact hK3 _ (lh hk rfl (rn 1 rfl (ls_ret ((by cases h; exact ⟨.inl rfl, rfl⟩)))))
 refine ls_rec (fun (s : (List Int) × Int) => match s with | (y1, y2) => [(1, dL ci64 a1), (5, oL 3 ci64 v1), (6, oL 3 ci64 y1), (7, nI y2)]) _ _ _ _ hl (okr rfl) (fun _ => rfl) ?_
 rintro m ⟨y1, y2⟩ N h hN
 unfold spec_ColumnsForOrder_B1 at h
 dsimp only at h
 refine ls_seq_k fun K5 hK5 => rn 1 rfl ?_
 rcases cond_some h with ⟨g6, h⟩ | ⟨g6, h⟩
 ·refine qT rfl g6 (ls_skip (hK5 _ (ls_seq_k fun K7 hK7 => ls_blk (rs (sp 3 rfl (?_))))))
  obtain ⟨e8, g9, h⟩ := ob_some h
  refine qI rfl zci64 g9 (sp 1 rfl (?_))
  obtain ⟨v10, g11, h⟩ := ob_some h
  refine qC (qa rfl (erD eci64 _) (qs rfl eran)) (spec_l7Find_s g11) (sp 1 rfl (evn (rk fun K12 hK12 => ?_)))
  have kJ2 : ∀ {x13 : Bool}, spec_ColumnsForOrder_J2 (loopF (spec_ColumnsForOrder_B1 a1 v1) m) y1 y2 v10 x13 = some o1 → Jn K12 [(1, dL ci64 a1), (5, oL 3 ci64 v1), (6, oL 3 ci64 y1), (7, nI y2), (8, nI v10), (31, .bool x13)] := by
   intro x13 h σ' hk
   unfold spec_ColumnsForOrder_J2 at h
   refine hK12 _ (lh hk rfl ?_)
   have kJ3 : ∀ {x14 : List Int}, spec_ColumnsForOrder_J3 (loopF (spec_ColumnsForOrder_B1 a1 v1) m) y2 x14 = some o1 → Jn K7 [(1, dL ci64 a1), (5, oL 3 ci64 v1), (6, oL 3 ci64 x14), (7, nI y2)] := by
    intro x14 h σ' hk
    unfold spec_ColumnsForOrder_J3 at h
    exact hK7 _ (lh hk rfl (rg (sp 3 rfl (evn (hN _ _ h (okr rfl))))))
   rcases cond_some h with ⟨g15, h⟩ | ⟨g15, h⟩
   ·refine qT rfl g15 (rg (sp 2 rfl (qBs ci64 [v10] rfl rfl rfl zci64 (?_))))
    obtain ⟨g16, h⟩ := chk_some h
    exact qA ci64 y1 [v10] rfl rfl (flat_len zci64 [v10]) rfl g16 (sp 1 rfl (evn (kJ3 h _ (okr rfl))))
   ·exact qF rfl g15 (ls_skip (kJ3 h _ (okr rfl)))
  refine sp 3 rfl (?_)
  rcases cond_some h with ⟨g17, h⟩ | ⟨g17, h⟩
  ·refine qg 26 g17 rfl (sp 2 rfl (?_))
   obtain ⟨v18, g19, h⟩ := ob_some h
   exact oGR rfl rfl (qC (qa rfl (erD eci64 _) (qs rfl eran)) (spec_l7Find_s g19) (sp 2 rfl (evn (kJ2 h _ (okr rfl)))))
  ·exact qg 26 g17 rfl (sp 5 rfl (evn (kJ2 h _ (okr rfl))))
 ·exact qF rfl g6 (ls_exit (kXB1 (Option.some.inj h) _ (okr rfl)))
def spec_BuildTries_B1 (a0 : List Y113) (a1 : Y29) (a2 : List Int) (rec : ((List Y40) × Int) → Option (Sum ((List Y40)) ((List Y40) × Bool))) (s : (List Y40) × Int) : Option (Sum ((List Y40)) ((List Y40) × Bool)) := match s with
  | (y1, y2) => cond (decide (y2 < (List.length a1.2.1 : Int))) (obind (geti a1.2.1 y2) fun e13 => obind (spec_AtomBindings a0 e13) fun v15 => obind (geti a1.2.1 y2) fun e17 => obind (spec_ColumnsForOrder e17 a2) fun v19 => obind (spec_BuildTrie v15 v19) fun v21 => cond (!v21.2) (some (.inr (([] : List Y40), false))) (chk (List.length y1 + List.length [v21.1] ≤ lim) (rec ((y1 ++ [v21.1]), (IntKind.i64.wrap (y2 + 1)))))) (some (.inl y1))
def spec_BuildTries (a0 : List Y113) (a1 : Y29) (a2 : List Int) : Option ((List Y40) × Bool) := obind (spec_IsQueryFor a0 a1) fun v2 => cond (!v2) (some (([] : List Y40), false)) (obind (spec_IsValidOrder a1 a2) fun v5 => cond (!v5) (some (([] : List Y40), false)) (obind (loopF (spec_BuildTries_B1 a0 a1 a2) fz (([] : List Y40), 0)) fun o1 => (match o1 with
  | .inl z9 => (some (z9, true))
  | .inr r => some r)))
theorem spec_BuildTries_s {a0 : List Y113} {a1 : Y29} {a2 : List Int} {r : (List Y40) × Bool} (h : spec_BuildTries a0 a1 a2 = some r) : SoundAt Tryz.prog 110 [.agg [dL c114_dd a0], .agg (c30_ddd a1), dL ci64 a2] (.tup [oL 179 c179_oo r.1, .bool r.2]) := by
 unfold spec_BuildTries at h
 refine st lit110 rfl (rn 1 rfl (rs (qBs c179_oo [] rfl rfl rfl zc179_oo (sp 1 rfl (evn (ls_seq_k fun K1 hK1 => rs (sp 2 rfl (?_))))))))
 obtain ⟨v2, g3, h⟩ := ob_some h
 refine qC (qa rfl (erg (erc (erD ec114_dd _) rfl)) (qa rfl (erg (erc rfl (erc (erD ec109_d _) (erc (erD eci64 _) rfl)))) eran)) (spec_IsQueryFor_s g3) (sp 2 rfl (?_))
 rcases cond_some h with ⟨g4, h⟩ | ⟨g4, h⟩
 ·exact qg 17 g4 rfl (sp 5 rfl (evn (qT rfl rfl (rn 1 rfl (ls_ret ((by cases h; exact ⟨.inl rfl, rfl⟩)))))))
 ·refine qg 17 g4 rfl (sp 2 rfl (?_))
  obtain ⟨v5, g6, h⟩ := ob_some h
  refine oGR rfl rfl (qC (qa rfl (erg (erc rfl (erc (erD ec109_d _) (erc (erD eci64 _) rfl)))) (qa rfl (erD eci64 _) eran)) (spec_IsValidOrder_s g6) (sp 2 rfl (evn ?_)))
  rcases cond_some h with ⟨g7, h⟩ | ⟨g7, h⟩
  ·exact qT rfl g7 (rn 1 rfl (ls_ret ((by cases h; exact ⟨.inl rfl, rfl⟩))))
  ·refine qF rfl g7 (ls_skip (hK1 _ (qk [2, 3, 4, 8] rfl (ls_seq_k fun K8 hK8 => rn 1 rfl ?_))))
   obtain ⟨o1, hl, hr1⟩ := ob_some h
   have kXB1 : ∀ {z9 : List Y40}, (.inl z9) = o1 → Jn K8 [(8, oL 179 c179_oo z9)] := by
    intro z9 h σ' hk
    subst h
    replace h := hr1
    try dsimp only at h
    exact hK8 _ (lh hk rfl (rn 1 rfl (ls_ret ((by cases h; exact ⟨.inl rfl, rfl⟩)))))
   refine ls_rec (fun (s : (List Y40) × Int) => match s with | (y1, y2) => [(2, dL ci64 a2), (3, .box [dL c114_dd a0]), (4, .box [nI a1.1, dL c109_d a1.2.1, dL ci64 a1.2.2]), (8, oL 179 c179_oo y1), (9, nI y2)]) _ _ _ _ hl (okr rfl) (fun _ => rfl) ?_
   rintro m ⟨y1, y2⟩ N h hN
   unfold spec_BuildTries_B1 at h
   dsimp only at h
   refine ls_seq_k fun K10 hK10 => rn 1 rfl ?_
   rcases cond_some h with ⟨g11, h⟩ | ⟨g11, h⟩
   ·refine qT rfl g11 (ls_skip (hK10 _ (ls_seq_k fun K12 hK12 => ls_blk (rd (by kernel_rfl) (sd 4 rfl (?_))))))
    obtain ⟨e13, g14, h⟩ := ob_some h
    refine ed rfl (qI rfl zc109_d g14 (sd 1 rfl (?_)))
    obtain ⟨v15, g16, h⟩ := ob_some h
    refine ed rfl (qC (qa rfl (erg (erc (erD ec114_dd _) rfl)) (qa rfl (erg (erc rfl (erc (erD eci64 _) rfl))) eran)) (spec_AtomBindings_s g16) (sd 3 rfl (?_)))
    obtain ⟨e17, g18, h⟩ := ob_some h
    refine ed rfl (qI rfl zc109_d g18 (sd 2 rfl (?_)))
    obtain ⟨v19, g20, h⟩ := ob_some h
    refine ed rfl (qC (qa rfl (erg (erc rfl (erc (erD eci64 _) rfl))) (qa rfl (erD eci64 _) eran)) (spec_ColumnsForOrder_s g20) (?_))
    obtain ⟨v21, g22, h⟩ := ob_some h
    refine ed rfl (qC (qa rfl (erg (erc rfl (erc (erO ec27_o _) rfl))) (qa rfl (erO eci64 _) eran)) (spec_BuildTrie_s g22) (sd 6 rfl (evdn (ls_seq_k fun K23 hK23 => rn 1 rfl (qk [2, 3, 4, 8, 9, 10, 50] rfl ?_)))))
    rcases cond_some h with ⟨g24, h⟩ | ⟨g24, h⟩
    ·exact qT rfl g24 (rs (qBs c179_oo [] rfl rfl rfl zc179_oo (sp 2 rfl (evn (ls_ret ((by cases h; cases hr1; exact ⟨.inl rfl, rfl⟩)))))))
    ·refine qF rfl g24 (ls_skip (hK23 _ (rg (sp 2 rfl (qBs c179_oo [v21.1] rfl rfl rfl zc179_oo (?_))))))
     obtain ⟨g25, h⟩ := chk_some h
     exact qA c179_oo y1 [v21.1] rfl rfl (flat_len zc179_oo [v21.1]) rfl g25 (sp 1 rfl (evn (hK12 _ (rg (sp 3 rfl (evn (hN _ _ h (okr rfl))))))))
   ·exact qF rfl g11 (ls_exit (kXB1 (Option.some.inj h) _ (okr rfl)))
def spec_l20Empty_B1 (a0 : List Y40) (rec : Int → Option (Sum (Unit) (Bool))) (y1 : Int) : Option (Sum (Unit) (Bool)) := cond (decide (y1 < (List.length a0 : Int))) (obind (geti a0 y1) fun e5 => cond ((List.length e5.2 : Int) == 0) (some (.inr true)) (rec (IntKind.i64.wrap (y1 + 1)))) (some (.inl ()))
def spec_l20Empty (a0 : List Y40) : Option (Bool) := obind (loopF (spec_l20Empty_B1 a0) fz 0) fun o1 => (match o1 with
  | .inl _ => (some false)
  | .inr r => some r)
theorem spec_l20Empty_s {a0 : List Y40} {r : Bool} (h : spec_l20Empty a0 = some r) : SoundAt Tryz.prog 111 [dL c179_dd a0] (.bool r) := by
 unfold spec_l20Empty at h
 refine st lit111 rfl (rn 1 rfl (ls_seq_k fun K1 hK1 => rn 1 rfl ?_))
 obtain ⟨o1, hl, hr1⟩ := ob_some h
 have kXB1 : (.inl ()) = o1 → Jn K1 [] := by
  intro h σ' hk
  subst h
  replace h := hr1
  try dsimp only at h
  exact hK1 _ (lh hk rfl (rn 1 rfl (ls_ret ((by cases h; exact ⟨.inl rfl, rfl⟩)))))
 refine ls_rec (fun (y1 : Int) => [(0, dL c179_dd a0), (3, nI y1)]) _ _ _ _ hl (okr rfl) (fun _ => rfl) ?_
 rintro m y1 N h hN
 unfold spec_l20Empty_B1 at h
 refine ls_seq_k fun K2 hK2 => rn 1 rfl ?_
 rcases cond_some h with ⟨g3, h⟩ | ⟨g3, h⟩
 ·refine qT rfl g3 (ls_skip (hK2 _ (ls_seq_k fun K4 hK4 => ls_blk (rs (sp 2 rfl (?_))))))
  obtain ⟨e5, g6, h⟩ := ob_some h
  refine qI rfl zc179_dd g6 (sp 4 rfl (evn ?_))
  rcases cond_some h with ⟨g7, h⟩ | ⟨g7, h⟩
  ·exact qT rfl g7 (rn 1 rfl (ls_ret ((by cases h; cases hr1; exact ⟨.inl rfl, rfl⟩))))
  ·exact qF rfl g7 (ls_skip (hK4 _ (rg (sp 3 rfl (evn (hN _ _ h (okr rfl)))))))
 ·exact qF rfl g3 (ls_exit (kXB1 (Option.some.inj h) _ trivial))
def spec_AtomsWithVariable_J2 (rec : ((List Int) × Int) → Option ((List Int))) (y2 : Int) (x13 : List Int) : Option ((List Int)) := rec (x13, (IntKind.i64.wrap (y2 + 1)))
def spec_AtomsWithVariable_B1 (a0 : Y29) (a1 : Int) (rec : ((List Int) × Int) → Option ((List Int))) (s : (List Int) × Int) : Option ((List Int)) := match s with
  | (y1, y2) => cond (decide (y2 < (List.length a0.2.1 : Int))) (obind (spec_IsValidQuery a0) fun v5 => cond v5 (obind (geti a0.2.1 y2) fun e9 => obind (spec_ContainsVariable e9 a1) fun v11 => cond v11 (chk (List.length y1 + List.length [y2] ≤ lim) (spec_AtomsWithVariable_J2 rec y2 (y1 ++ [y2]))) (spec_AtomsWithVariable_J2 rec y2 y1)) (some y1)) (some y1)
def spec_AtomsWithVariable (a0 : Y29) (a1 : Int) : Option ((List Int)) := obind (loopF (spec_AtomsWithVariable_B1 a0 a1) fz (([] : List Int), 0)) fun z2 => some z2
theorem spec_AtomsWithVariable_s {a0 : Y29} {a1 : Int} {r : (List Int)} (h : spec_AtomsWithVariable a0 a1 = some r) : SoundAt Tryz.prog 179 [.agg (c30_ddd a0), nI a1] (oL 3 ci64 r) := by
 unfold spec_AtomsWithVariable at h
 refine st lit179 rfl (rn 1 rfl (rs (qBs ci64 [] rfl rfl rfl zci64 (sp 1 rfl (evn (ls_seq_k fun K1 hK1 => rn 1 rfl ?_))))))
 obtain ⟨o1, hl, hr1⟩ := ob_some h
 have kXB1 : ∀ {z2 : List Int}, z2 = o1 → Jn K1 [(5, oL 3 ci64 z2)] := by
  intro z2 h σ' hk
  subst h
  replace h := hr1
  try dsimp only at h
  exact hK1 _ (lh hk rfl (rn 1 rfl (ls_ret ((by cases h; exact ⟨.inl rfl, rfl⟩)))))
 refine ls_rec (fun (s : (List Int) × Int) => match s with | (y1, y2) => [(1, nI a1), (2, .box [nI a0.1, dL c109_d a0.2.1, dL ci64 a0.2.2]), (5, oL 3 ci64 y1), (6, nI y2)]) _ _ _ _ hl (okr rfl) (fun _ => rfl) ?_
 rintro m ⟨y1, y2⟩ N h hN
 unfold spec_AtomsWithVariable_B1 at h
 dsimp only at h
 refine ls_seq_k fun K3 hK3 => rs (sp 6 rfl (?_))
 rcases cond_some h with ⟨g4, h⟩ | ⟨g4, h⟩
 ·refine qg 13 g4 rfl (sp 1 rfl (?_))
  obtain ⟨v5, g6, h⟩ := ob_some h
  refine oGR rfl rfl (qC (qa rfl (erg (erc rfl (erc (erD ec109_d _) (erc (erD eci64 _) rfl)))) eran) (spec_IsValidQuery_s g6) (sp 1 rfl (evn ?_)))
  rcases cond_some h with ⟨g7, h⟩ | ⟨g7, h⟩
  ·refine qT rfl g7 (ls_skip (hK3 _ (ls_seq_k fun K8 hK8 => ls_blk (rs (sp 3 rfl (?_))))))
   obtain ⟨e9, g10, h⟩ := ob_some h
   refine qI rfl zc109_d g10 (sp 2 rfl (?_))
   obtain ⟨v11, g12, h⟩ := ob_some h
   refine qC (qa rfl (erg (erc rfl (erc (erD eci64 _) rfl))) (qs rfl eran)) (spec_ContainsVariable_s g12) (evn ?_)
   have kJ2 : ∀ {x13 : List Int}, spec_AtomsWithVariable_J2 (loopF (spec_AtomsWithVariable_B1 a0 a1) m) y2 x13 = some o1 → Jn K8 [(1, nI a1), (2, .box [nI a0.1, dL c109_d a0.2.1, dL ci64 a0.2.2]), (5, oL 3 ci64 x13), (6, nI y2)] := by
    intro x13 h σ' hk
    unfold spec_AtomsWithVariable_J2 at h
    exact hK8 _ (lh hk rfl (rg (sp 3 rfl (evn (hN _ _ h (okr rfl))))))
   rcases cond_some h with ⟨g14, h⟩ | ⟨g14, h⟩
   ·refine qT rfl g14 (rg (sp 2 rfl (qBs ci64 [y2] rfl rfl rfl zci64 (?_))))
    obtain ⟨g15, h⟩ := chk_some h
    exact qA ci64 y1 [y2] rfl rfl (flat_len zci64 [y2]) rfl g15 (sp 1 rfl (evn (kJ2 h _ (okr rfl))))
   ·exact qF rfl g14 (ls_skip (kJ2 h _ (okr rfl)))
  ·exact qF rfl g7 (ls_exit (kXB1 (Option.some.inj h) _ (okr rfl)))
 ·exact qg 13 g4 rfl (sp 3 rfl (evn (qF rfl rfl (ls_exit (kXB1 (Option.some.inj h) _ (okr rfl))))))
def spec_l16Rel (a0 : Y40) : Option (Y40) := some a0
theorem spec_l16Rel_s {a0 : Y40} {r : Y40} (h : spec_l16Rel a0 = some r) : SoundAt Tryz.prog 200 [.agg (c179_dd a0)] (.agg (c41_dd r)) := by
 unfold spec_l16Rel at h
 exact st lit200 rfl (rn 2 rfl (ls_ret ((by cases h; exact ⟨.inl rfl, rfl⟩))))
def spec_IsValidTrie (a0 : Y40) : Option (Bool) := obind (spec_l16Rel a0) fun v1 => obind (spec_IsValidRelation v1) fun v3 => some v3
theorem spec_IsValidTrie_s {a0 : Y40} {r : Bool} (h : spec_IsValidTrie a0 = some r) : SoundAt Tryz.prog 198 [.agg (c179_dd a0)] (.bool r) := by
 unfold spec_IsValidTrie at h
 refine st lit198 rfl (rn 1 rfl (rs (sp 1 rfl (?_))))
 obtain ⟨v1, g2, h⟩ := ob_some h
 refine qC (qa rfl (erg (erc rfl (erc (erD ec27_d _) rfl))) eran) (spec_l16Rel_s g2) (?_)
 obtain ⟨v3, g4, h⟩ := ob_some h
 exact qC (qa rfl (erg (erc rfl (erc (erD ec27_d _) rfl))) eran) (spec_IsValidRelation_s g4) (sp 1 rfl (evn (ls_ret ((by cases h; exact ⟨.inl rfl, rfl⟩)))))
def spec_TriePrefixRange_B1 (a0 : Y40) (a1 : List Int) (rec : Int → Option (Int)) (y1 : Int) : Option (Int) := cond (decide (y1 < (List.length a0.2 : Int))) (obind (geti a0.2 y1) fun e10 => chk ((0 : Int) ≤ 0 ∧ 0 ≤ (List.length a1 : Int) ∧ (List.length a1 : Int) ≤ (List.length e10 : Int)) (obind (spec_CompareRows (subl e10 0 (List.length a1 : Int)) a1) fun v13 => cond (decide (v13 < 0)) (rec (IntKind.i64.wrap (y1 + 1))) (some y1))) (some y1)
def spec_TriePrefixRange_B2 (a0 : Y40) (a1 : List Int) (rec : Int → Option (Int)) (y2 : Int) : Option (Int) := cond (decide (y2 < (List.length a0.2 : Int))) (obind (geti a0.2 y2) fun e20 => chk ((0 : Int) ≤ 0 ∧ 0 ≤ (List.length a1 : Int) ∧ (List.length a1 : Int) ≤ (List.length e20 : Int)) (obind (spec_CompareRows (subl e20 0 (List.length a1 : Int)) a1) fun v23 => cond (v23 == 0) (rec (IntKind.i64.wrap (y2 + 1))) (some y2))) (some y2)
def spec_TriePrefixRange (a0 : Y40) (a1 : List Int) : Option (Int × Int) := obind (spec_IsValidTrie a0) fun v2 => cond (!v2) (some (0, 0)) (cond (decide (a0.1 < (List.length a1 : Int))) (some (0, 0)) (obind (loopF (spec_TriePrefixRange_B1 a0 a1) fz 0) fun z7 => obind (loopF (spec_TriePrefixRange_B2 a0 a1) fz z7) fun z17 => some (z7, z17)))
theorem spec_TriePrefixRange_s {a0 : Y40} {a1 : List Int} {r : Int × Int} (h : spec_TriePrefixRange a0 a1 = some r) : SoundAt Tryz.prog 189 [.agg (c179_dd a0), dL ci64 a1] (.tup [nI r.1, nI r.2]) := by
 unfold spec_TriePrefixRange at h
 refine st lit189 rfl (rn 1 rfl (ls_seq_k fun K1 hK1 => rs (sp 1 rfl (?_))))
 obtain ⟨v2, g3, h⟩ := ob_some h
 refine qC (qa rfl (erg (erc rfl (erc (erD ec27_d _) rfl))) eran) (spec_IsValidTrie_s g3) (sp 2 rfl (?_))
 rcases cond_some h with ⟨g4, h⟩ | ⟨g4, h⟩
 ·exact qg 11 g4 rfl (sp 6 rfl (evn (qT rfl rfl (rn 1 rfl (ls_ret ((by cases h; exact ⟨.inl rfl, rfl⟩)))))))
 ·refine qg 11 g4 rfl (sp 6 rfl (evn ?_))
  rcases cond_some h with ⟨g5, h⟩ | ⟨g5, h⟩
  ·exact qT rfl g5 (rn 1 rfl (ls_ret ((by cases h; exact ⟨.inl rfl, rfl⟩))))
  ·refine qF rfl g5 (ls_skip (hK1 _ (qk [1, 2] rfl (rn 1 rfl (ls_seq_k fun K6 hK6 => ?_)))))
   obtain ⟨o1, hl, hr1⟩ := ob_some h
   have kXB1 : ∀ {z7 : Int}, z7 = o1 → Jn K6 [(1, dL ci64 a1), (2, .box [nI a0.1, dL c27_d a0.2]), (6, nI z7)] := by
    intro z7 h σ' hk
    subst h
    replace h := hr1
    try dsimp only at h
    refine hK6 _ (lh hk rfl (rn 1 rfl (ls_seq_k fun K16 hK16 => ?_)))
    obtain ⟨o2, hl, hr2⟩ := ob_some h
    have kXB2 : ∀ {z17 : Int}, z17 = o2 → Jn K16 [(6, nI z7), (7, nI z17)] := by
     intro z17 h σ' hk
     subst h
     replace h := hr2
     try dsimp only at h
     exact hK16 _ (lh hk rfl (rn 1 rfl (ls_ret ((by cases h; exact ⟨.inl rfl, rfl⟩)))))
    refine ls_rec (fun (y2 : Int) => [(1, dL ci64 a1), (2, .box [nI a0.1, dL c27_d a0.2]), (6, nI z7), (7, nI y2)]) _ _ _ _ hl (okr rfl) (fun _ => rfl) ?_
    rintro m y2 N h hN
    unfold spec_TriePrefixRange_B2 at h
    refine ls_seq_k fun K18 hK18 => rs (sp 6 rfl (?_))
    rcases cond_some h with ⟨g19, h⟩ | ⟨g19, h⟩
    ·refine qg 44 g19 rfl (sp 3 rfl (?_))
     obtain ⟨e20, g21, h⟩ := ob_some h
     refine oGR rfl rfl (qI rfl zc27_d g21 (sp 3 rfl (?_)))
     obtain ⟨g22, h⟩ := chk_some h
     refine oGR rfl rfl (qSl rfl zci64 g22 (sp 1 rfl (?_)))
     obtain ⟨v23, g24, h⟩ := ob_some h
     refine oGR rfl rfl (qC (qa rfl (erD eci64 _) (qa rfl (erD eci64 _) eran)) (spec_CompareRows_s g24) (sp 2 rfl (evn ?_)))
     rcases cond_some h with ⟨g25, h⟩ | ⟨g25, h⟩
     ·exact qT rfl g25 (ls_skip (hK18 _ (ls_blk (rg (sp 3 rfl (evn (hN _ _ h (okr rfl))))))))
     ·exact qF rfl g25 (ls_exit (kXB2 (Option.some.inj h) _ (okr rfl)))
    ·exact qg 44 g19 rfl (sp 12 rfl (evn (qk [1, 2, 6, 7, 56] rfl (qF rfl rfl (ls_exit (kXB2 (Option.some.inj h) _ (okr rfl)))))))
   refine ls_rec (fun (y1 : Int) => [(1, dL ci64 a1), (2, .box [nI a0.1, dL c27_d a0.2]), (6, nI y1)]) _ _ _ _ hl (okr rfl) (fun _ => rfl) ?_
   rintro m y1 N h hN
   unfold spec_TriePrefixRange_B1 at h
   refine ls_seq_k fun K8 hK8 => rs (sp 6 rfl (?_))
   rcases cond_some h with ⟨g9, h⟩ | ⟨g9, h⟩
   ·refine qg 23 g9 rfl (sp 3 rfl (?_))
    obtain ⟨e10, g11, h⟩ := ob_some h
    refine oGR rfl rfl (qI rfl zc27_d g11 (sp 3 rfl (?_)))
    obtain ⟨g12, h⟩ := chk_some h
    refine oGR rfl rfl (qSl rfl zci64 g12 (sp 1 rfl (?_)))
    obtain ⟨v13, g14, h⟩ := ob_some h
    refine oGR rfl rfl (qC (qa rfl (erD eci64 _) (qa rfl (erD eci64 _) eran)) (spec_CompareRows_s g14) (sp 2 rfl (evn ?_)))
    rcases cond_some h with ⟨g15, h⟩ | ⟨g15, h⟩
    ·exact qT rfl g15 (ls_skip (hK8 _ (ls_blk (rg (sp 3 rfl (evn (hN _ _ h (okr rfl))))))))
    ·exact qF rfl g15 (ls_exit (kXB1 (Option.some.inj h) _ (okr rfl)))
   ·exact qg 23 g9 rfl (sp 12 rfl (evn (qk [1, 2, 6, 35] rfl (qF rfl rfl (ls_exit (kXB1 (Option.some.inj h) _ (okr rfl)))))))
def spec_TrieChildren_J3 (rec : ((List Int) × Int) → Option ((List Int))) (y2 : Int) (x15 : List Int) : Option ((List Int)) := rec (x15, (IntKind.i64.wrap (y2 + 1)))
def spec_TrieChildren_J2 (rec : ((List Int) × Int) → Option ((List Int))) (y1 : List Int) (y2 : Int) (e11 : Int) (x14 : Bool) : Option ((List Int)) := cond x14 (chk (List.length y1 + List.length [e11] ≤ lim) (spec_TrieChildren_J3 rec y2 (y1 ++ [e11]))) (spec_TrieChildren_J3 rec y2 y1)
def spec_TrieChildren_B1 (a0 : Y40) (a1 : List Int) (v1 : Int × Int) (rec : ((List Int) × Int) → Option ((List Int))) (s : (List Int) × Int) : Option ((List Int)) := match s with
  | (y1, y2) => cond (decide (y2 < v1.2)) (cond (decide ((List.length a1 : Int) < a0.1)) (obind (geti a0.2 y2) fun e9 => obind (geti e9 (List.length a1 : Int)) fun e11 => cond ((List.length y1 : Int) == 0) (spec_TrieChildren_J2 rec y1 y2 e11 true) (obind (geti y1 (IntKind.i64.wrap ((List.length y1 : Int) - 1))) fun e19 => spec_TrieChildren_J2 rec y1 y2 e11 (e19 != e11))) (some y1)) (some y1)
def spec_TrieChildren (a0 : Y40) (a1 : List Int) : Option ((List Int)) := obind (spec_TriePrefixRange a0 a1) fun v1 => obind (loopF (spec_TrieChildren_B1 a0 a1 v1) fz (([] : List Int), v1.1)) fun z4 => some z4
theorem spec_TrieChildren_s {a0 : Y40} {a1 : List Int} {r : (List Int)} (h : spec_TrieChildren a0 a1 = some r) : SoundAt Tryz.prog 180 [.agg (c179_dd a0), dL ci64 a1] (oL 3 ci64 r) := by
 unfold spec_TrieChildren at h
 refine st lit180 rfl (rn 1 rfl (rs (qBs ci64 [] rfl rfl rfl zci64 (sp 1 rfl (evn (rs (sp 2 rfl (?_))))))))
 obtain ⟨v1, g2, h⟩ := ob_some h
 refine qC (qa rfl (erg (erc rfl (erc (erD ec27_d _) rfl))) (qa rfl (erD eci64 _) eran)) (spec_TriePrefixRange_s g2) (sp 5 rfl (evn (ls_seq_k fun K3 hK3 => rn 1 rfl ?_)))
 obtain ⟨o1, hl, hr1⟩ := ob_some h
 have kXB1 : ∀ {z4 : List Int}, z4 = o1 → Jn K3 [(5, oL 3 ci64 z4)] := by
  intro z4 h σ' hk
  subst h
  replace h := hr1
  try dsimp only at h
  exact hK3 _ (lh hk rfl (rn 1 rfl (ls_ret ((by cases h; exact ⟨.inl rfl, rfl⟩)))))
 refine ls_rec (fun (s : (List Int) × Int) => match s with | (y1, y2) => [(1, dL ci64 a1), (2, .box [nI a0.1, dL c27_d a0.2]), (5, oL 3 ci64 y1), (7, nI v1.2), (8, nI y2)]) _ _ _ _ hl (okr rfl) (fun _ => rfl) ?_
 rintro m ⟨y1, y2⟩ N h hN
 unfold spec_TrieChildren_B1 at h
 dsimp only at h
 refine ls_seq_k fun K5 hK5 => rs (sp 4 rfl (?_))
 rcases cond_some h with ⟨g6, h⟩ | ⟨g6, h⟩
 ·refine qg 21 g6 rfl (sp 6 rfl (evn ?_))
  rcases cond_some h with ⟨g7, h⟩ | ⟨g7, h⟩
  ·refine qT rfl g7 (ls_skip (hK5 _ (ls_seq_k fun K8 hK8 => ls_blk (rs (sp 3 rfl (?_))))))
   obtain ⟨e9, g10, h⟩ := ob_some h
   refine qI rfl zc27_d g10 (sp 3 rfl (?_))
   obtain ⟨e11, g12, h⟩ := ob_some h
   refine qI rfl zci64 g12 (sp 2 rfl (evn (rk fun K13 hK13 => ?_)))
   have kJ2 : ∀ {x14 : Bool}, spec_TrieChildren_J2 (loopF (spec_TrieChildren_B1 a0 a1 v1) m) y1 y2 e11 x14 = some o1 → Jn K13 [(1, dL ci64 a1), (2, .box [nI a0.1, dL c27_d a0.2]), (5, oL 3 ci64 y1), (7, nI v1.2), (8, nI y2), (9, nI e11), (51, .bool x14)] := by
    intro x14 h σ' hk
    unfold spec_TrieChildren_J2 at h
    refine hK13 _ (lh hk rfl ?_)
    have kJ3 : ∀ {x15 : List Int}, spec_TrieChildren_J3 (loopF (spec_TrieChildren_B1 a0 a1 v1) m) y2 x15 = some o1 → Jn K8 [(1, dL ci64 a1), (2, .box [nI a0.1, dL c27_d a0.2]), (5, oL 3 ci64 x15), (7, nI v1.2), (8, nI y2)] := by
     intro x15 h σ' hk
     unfold spec_TrieChildren_J3 at h
     exact hK8 _ (lh hk rfl (rg (sp 3 rfl (evn (hN _ _ h (okr rfl))))))
    rcases cond_some h with ⟨g16, h⟩ | ⟨g16, h⟩
    ·refine qT rfl g16 (rg (sp 2 rfl (qBs ci64 [e11] rfl rfl rfl zci64 (?_))))
     obtain ⟨g17, h⟩ := chk_some h
     exact qA ci64 y1 [e11] rfl rfl (flat_len zci64 [e11]) rfl g17 (sp 1 rfl (evn (kJ3 h _ (okr rfl))))
    ·exact qF rfl g16 (ls_skip (kJ3 h _ (okr rfl)))
   refine sp 4 rfl (?_)
   rcases cond_some h with ⟨g18, h⟩ | ⟨g18, h⟩
   ·exact qg 42 g18 rfl (sp 9 rfl (evn (kJ2 h _ (okr rfl))))
   ·refine qg 42 g18 rfl (sp 4 rfl (?_))
    obtain ⟨e19, g20, h⟩ := ob_some h
    exact oGR rfl rfl (qI rfl zci64 g20 (sp 4 rfl (evn (kJ2 h _ (okr rfl)))))
  ·exact qF rfl g7 (ls_exit (kXB1 (Option.some.inj h) _ (okr rfl)))
 ·exact qg 21 g6 rfl (sp 6 rfl (evn (qk [1, 2, 5, 7, 8, 27] rfl (qF rfl rfl (ls_exit (kXB1 (Option.some.inj h) _ (okr rfl)))))))
def spec_l20Prefix_J2 (rec : ((List Int) × Int) → Option ((List Int))) (y2 : Int) (x10 : List Int) : Option ((List Int)) := rec (x10, (IntKind.i64.wrap (y2 + 1)))
def spec_l20Prefix_B1 (a0 : Y108) (a1 : List Int) (a2 : List Int) (rec : ((List Int) × Int) → Option ((List Int))) (s : (List Int) × Int) : Option ((List Int)) := match s with
  | (y1, y2) => cond (decide (y2 < (List.length a2 : Int))) (obind (geti a1 y2) fun e6 => obind (spec_ContainsVariable a0 e6) fun v8 => cond v8 (obind (geti a2 y2) fun e12 => chk (List.length y1 + List.length [e12] ≤ lim) (spec_l20Prefix_J2 rec y2 (y1 ++ [e12]))) (spec_l20Prefix_J2 rec y2 y1)) (some y1)
def spec_l20Prefix (a0 : Y108) (a1 : List Int) (a2 : List Int) : Option ((List Int)) := obind (loopF (spec_l20Prefix_B1 a0 a1 a2) fz (([] : List Int), 0)) fun z2 => some z2
theorem spec_l20Prefix_s {a0 : Y108} {a1 : List Int} {a2 : List Int} {r : (List Int)} (h : spec_l20Prefix a0 a1 a2 = some r) : SoundAt Tryz.prog 181 [.agg (c109_d a0), dL ci64 a1, dL ci64 a2] (oL 3 ci64 r) := by
 unfold spec_l20Prefix at h
 refine st lit181 rfl (rn 1 rfl (rs (qBs ci64 [] rfl rfl rfl zci64 (sp 1 rfl (evn (ls_seq_k fun K1 hK1 => rn 1 rfl ?_))))))
 obtain ⟨o1, hl, hr1⟩ := ob_some h
 have kXB1 : ∀ {z2 : List Int}, z2 = o1 → Jn K1 [(7, oL 3 ci64 z2)] := by
  intro z2 h σ' hk
  subst h
  replace h := hr1
  try dsimp only at h
  exact hK1 _ (lh hk rfl (rn 1 rfl (ls_ret ((by cases h; exact ⟨.inl rfl, rfl⟩)))))
 refine ls_rec (fun (s : (List Int) × Int) => match s with | (y1, y2) => [(1, dL ci64 a1), (2, dL ci64 a2), (3, .box [.str a0.1, dL ci64 a0.2]), (7, oL 3 ci64 y1), (8, nI y2)]) _ _ _ _ hl (okr rfl) (fun _ => rfl) ?_
 rintro m ⟨y1, y2⟩ N h hN
 unfold spec_l20Prefix_B1 at h
 dsimp only at h
 refine ls_seq_k fun K3 hK3 => rn 1 rfl ?_
 rcases cond_some h with ⟨g4, h⟩ | ⟨g4, h⟩
 ·refine qT rfl g4 (ls_skip (hK3 _ (ls_seq_k fun K5 hK5 => ls_blk (rd (by kernel_rfl) (sd 3 rfl (?_))))))
  obtain ⟨e6, g7, h⟩ := ob_some h
  refine ed rfl (qI rfl zci64 g7 (sd 1 rfl (?_)))
  obtain ⟨v8, g9, h⟩ := ob_some h
  refine ed rfl (qC (qa rfl (erg (erc rfl (erc (erD eci64 _) rfl))) (qs rfl eran)) (spec_ContainsVariable_s g9) (evdn ?_))
  have kJ2 : ∀ {x10 : List Int}, spec_l20Prefix_J2 (loopF (spec_l20Prefix_B1 a0 a1 a2) m) y2 x10 = some o1 → Jn K5 [(1, dL ci64 a1), (2, dL ci64 a2), (3, .box [.str a0.1, dL ci64 a0.2]), (7, oL 3 ci64 x10), (8, nI y2)] := by
   intro x10 h σ' hk
   unfold spec_l20Prefix_J2 at h
   exact hK5 _ (lh hk rfl (rg (sp 3 rfl (evn (hN _ _ h (okr rfl))))))
  rcases cond_some h with ⟨g11, h⟩ | ⟨g11, h⟩
  ·refine qT rfl g11 (rg (sp 3 rfl (?_)))
   obtain ⟨e12, g13, h⟩ := ob_some h
   refine qI rfl zci64 g13 (sp 1 rfl (qBs ci64 [e12] rfl rfl rfl zci64 (?_)))
   obtain ⟨g14, h⟩ := chk_some h
   exact qA ci64 y1 [e12] rfl rfl (flat_len zci64 [e12]) rfl g14 (sp 1 rfl (evn (kJ2 h _ (okr rfl))))
  ·exact qF rfl g11 (ls_skip (kJ2 h _ (okr rfl)))
 ·exact qF rfl g4 (ls_exit (kXB1 (Option.some.inj h) _ (okr rfl)))
def spec_IsStrictlyAscending_B1 (a0 : List Int) (rec : Int → Option (Sum (Unit) (Bool))) (y1 : Int) : Option (Sum (Unit) (Bool)) := cond (decide (y1 < (List.length a0 : Int))) (obind (geti a0 y1) fun e5 => obind (geti a0 (IntKind.i64.wrap (y1 - 1))) fun e7 => cond (decide (e5 ≤ e7)) (some (.inr false)) (rec (IntKind.i64.wrap (y1 + 1)))) (some (.inl ()))
def spec_IsStrictlyAscending (a0 : List Int) : Option (Bool) := obind (loopF (spec_IsStrictlyAscending_B1 a0) fz 1) fun o1 => (match o1 with
  | .inl _ => (some true)
  | .inr r => some r)
theorem spec_IsStrictlyAscending_s {a0 : List Int} {r : Bool} (h : spec_IsStrictlyAscending a0 = some r) : SoundAt Tryz.prog 199 [dL ci64 a0] (.bool r) := by
 unfold spec_IsStrictlyAscending at h
 refine st lit199 rfl (rn 1 rfl (ls_seq_k fun K1 hK1 => rn 1 rfl ?_))
 obtain ⟨o1, hl, hr1⟩ := ob_some h
 have kXB1 : (.inl ()) = o1 → Jn K1 [] := by
  intro h σ' hk
  subst h
  replace h := hr1
  try dsimp only at h
  exact hK1 _ (lh hk rfl (rn 1 rfl (ls_ret ((by cases h; exact ⟨.inl rfl, rfl⟩)))))
 refine ls_rec (fun (y1 : Int) => [(0, dL ci64 a0), (3, nI y1)]) _ _ _ _ hl (okr rfl) (fun _ => rfl) ?_
 rintro m y1 N h hN
 unfold spec_IsStrictlyAscending_B1 at h
 refine ls_seq_k fun K2 hK2 => rn 1 rfl ?_
 rcases cond_some h with ⟨g3, h⟩ | ⟨g3, h⟩
 ·refine qT rfl g3 (ls_skip (hK2 _ (ls_seq_k fun K4 hK4 => ls_blk (rd (by kernel_rfl) (sd 2 rfl (?_))))))
  obtain ⟨e5, g6, h⟩ := ob_some h
  refine ed rfl (qI rfl zci64 g6 (sd 4 rfl (?_)))
  obtain ⟨e7, g8, h⟩ := ob_some h
  refine ed rfl (qI rfl zci64 g8 (sd 2 rfl (evdn ?_)))
  rcases cond_some h with ⟨g9, h⟩ | ⟨g9, h⟩
  ·exact qT rfl g9 (rn 1 rfl (ls_ret ((by cases h; cases hr1; exact ⟨.inl rfl, rfl⟩))))
  ·exact qF rfl g9 (ls_skip (hK4 _ (rg (sp 3 rfl (evn (hN _ _ h (okr rfl)))))))
 ·exact qF rfl g3 (ls_exit (kXB1 (Option.some.inj h) _ trivial))
def spec_l18All_B1 (a0 : List (List Int)) (rec : Int → Option (Sum (Unit) (Bool))) (y1 : Int) : Option (Sum (Unit) (Bool)) := cond (decide (y1 < (List.length a0 : Int))) (obind (geti a0 y1) fun e5 => obind (spec_IsStrictlyAscending e5) fun v7 => cond (!v7) (some (.inr false)) (rec (IntKind.i64.wrap (y1 + 1)))) (some (.inl ()))
def spec_l18All (a0 : List (List Int)) : Option (Bool) := obind (loopF (spec_l18All_B1 a0) fz 0) fun o1 => (match o1 with
  | .inl _ => (some (decide (0 < (List.length a0 : Int))))
  | .inr r => some r)
theorem spec_l18All_s {a0 : List (List Int)} {r : Bool} (h : spec_l18All a0 = some r) : SoundAt Tryz.prog 190 [dL c27_d a0] (.bool r) := by
 unfold spec_l18All at h
 refine st lit190 rfl (rn 1 rfl (ls_seq_k fun K1 hK1 => rn 1 rfl ?_))
 obtain ⟨o1, hl, hr1⟩ := ob_some h
 have kXB1 : (.inl ()) = o1 → Jn K1 [(0, dL c27_d a0)] := by
  intro h σ' hk
  subst h
  replace h := hr1
  try dsimp only at h
  exact hK1 _ (lh hk rfl (rn 1 rfl (ls_ret ((by cases h; exact ⟨.inl rfl, rfl⟩)))))
 refine ls_rec (fun (y1 : Int) => [(0, dL c27_d a0), (3, nI y1)]) _ _ _ _ hl (okr rfl) (fun _ => rfl) ?_
 rintro m y1 N h hN
 unfold spec_l18All_B1 at h
 refine ls_seq_k fun K2 hK2 => rn 1 rfl ?_
 rcases cond_some h with ⟨g3, h⟩ | ⟨g3, h⟩
 ·refine qT rfl g3 (ls_skip (hK2 _ (ls_seq_k fun K4 hK4 => ls_blk (rs (sp 2 rfl (?_))))))
  obtain ⟨e5, g6, h⟩ := ob_some h
  refine qI rfl zc27_d g6 (sp 1 rfl (?_))
  obtain ⟨v7, g8, h⟩ := ob_some h
  refine qC (qa rfl (erD eci64 _) eran) (spec_IsStrictlyAscending_s g8) (sp 1 rfl (evn ?_))
  rcases cond_some h with ⟨g9, h⟩ | ⟨g9, h⟩
  ·exact qT rfl g9 (rn 1 rfl (ls_ret ((by cases h; cases hr1; exact ⟨.inl rfl, rfl⟩))))
  ·exact qF rfl g9 (ls_skip (hK4 _ (rg (sp 3 rfl (evn (hN _ _ h (okr rfl)))))))
 ·exact qF rfl g3 (ls_exit (kXB1 (Option.some.inj h) _ (okr rfl)))
def spec_ShortestLength_J3 (rec : (Int × Int) → Option (Int)) (y2 : Int) (x8 : Int) : Option (Int) := rec (x8, (IntKind.i64.wrap (y2 + 1)))
def spec_ShortestLength_J2 (rec : (Int × Int) → Option (Int)) (a0 : List (List Int)) (y1 : Int) (y2 : Int) (x7 : Bool) : Option (Int) := cond x7 (obind (geti a0 y2) fun e10 => spec_ShortestLength_J3 rec y2 (List.length e10 : Int)) (spec_ShortestLength_J3 rec y2 y1)
def spec_ShortestLength_B1 (a0 : List (List Int)) (rec : (Int × Int) → Option (Int)) (s : Int × Int) : Option (Int) := match s with
  | (y1, y2) => cond (decide (y2 < (List.length a0 : Int))) (cond (y2 == 0) (spec_ShortestLength_J2 rec a0 y1 y2 true) (obind (geti a0 y2) fun e13 => spec_ShortestLength_J2 rec a0 y1 y2 (decide ((List.length e13 : Int) < y1)))) (some y1)
def spec_ShortestLength (a0 : List (List Int)) : Option (Int) := obind (loopF (spec_ShortestLength_B1 a0) fz (0, 0)) fun z2 => some z2
theorem spec_ShortestLength_s {a0 : List (List Int)} {r : Int} (h : spec_ShortestLength a0 = some r) : SoundAt Tryz.prog 191 [dL c27_d a0] (nI r) := by
 unfold spec_ShortestLength at h
 refine st lit191 rfl (rn 2 rfl (ls_seq_k fun K1 hK1 => rn 1 rfl ?_))
 obtain ⟨o1, hl, hr1⟩ := ob_some h
 have kXB1 : ∀ {z2 : Int}, z2 = o1 → Jn K1 [(3, nI z2)] := by
  intro z2 h σ' hk
  subst h
  replace h := hr1
  try dsimp only at h
  exact hK1 _ (lh hk rfl (rn 1 rfl (ls_ret ((by cases h; exact ⟨.inl rfl, rfl⟩)))))
 refine ls_rec (fun (s : Int × Int) => match s with | (y1, y2) => [(0, dL c27_d a0), (3, nI y1), (4, nI y2)]) _ _ _ _ hl (okr rfl) (fun _ => rfl) ?_
 rintro m ⟨y1, y2⟩ N h hN
 unfold spec_ShortestLength_B1 at h
 dsimp only at h
 refine ls_seq_k fun K3 hK3 => rn 1 rfl ?_
 rcases cond_some h with ⟨g4, h⟩ | ⟨g4, h⟩
 ·refine qT rfl g4 (ls_skip (hK3 _ (ls_seq_k fun K5 hK5 => ls_blk (rk fun K6 hK6 => ?_))))
  have kJ2 : ∀ {x7 : Bool}, spec_ShortestLength_J2 (loopF (spec_ShortestLength_B1 a0) m) a0 y1 y2 x7 = some o1 → Jn K6 [(0, dL c27_d a0), (3, nI y1), (4, nI y2), (21, .bool x7)] := by
   intro x7 h σ' hk
   unfold spec_ShortestLength_J2 at h
   refine hK6 _ (lh hk rfl ?_)
   have kJ3 : ∀ {x8 : Int}, spec_ShortestLength_J3 (loopF (spec_ShortestLength_B1 a0) m) y2 x8 = some o1 → Jn K5 [(0, dL c27_d a0), (3, nI x8), (4, nI y2)] := by
    intro x8 h σ' hk
    unfold spec_ShortestLength_J3 at h
    exact hK5 _ (lh hk rfl (rg (sp 3 rfl (evn (hN _ _ h (okr rfl))))))
   rcases cond_some h with ⟨g9, h⟩ | ⟨g9, h⟩
   ·refine qT rfl g9 (rg (sp 2 rfl (?_)))
    obtain ⟨e10, g11, h⟩ := ob_some h
    exact qI rfl zc27_d g11 (sp 3 rfl (evn (kJ3 h _ (okr rfl))))
   ·exact qF rfl g9 (ls_skip (kJ3 h _ (okr rfl)))
  refine sp 3 rfl (?_)
  rcases cond_some h with ⟨g12, h⟩ | ⟨g12, h⟩
  ·exact qg 13 g12 rfl (sp 8 rfl (evn (kJ2 h _ (okr rfl))))
  ·refine qg 13 g12 rfl (sp 2 rfl (?_))
   obtain ⟨e13, g14, h⟩ := ob_some h
   exact oGR rfl rfl (qI rfl zc27_d g14 (sp 5 rfl (evn (kJ2 h _ (okr rfl)))))
 ·exact qF rfl g4 (ls_exit (kXB1 (Option.some.inj h) _ (okr rfl)))
def spec_l18Order_B2 (a0 : List (List Int)) (y2 : List Int) (y3 : Int) (rec : Int → Option (Int)) (y5 : Int) : Option (Int) := cond (decide (0 < y5)) (obind (geti y2 (IntKind.i64.wrap (y5 - 1))) fun e10 => obind (geti a0 e10) fun e12 => obind (geti e12 0) fun e14 => obind (geti a0 y3) fun e16 => obind (geti e16 0) fun e18 => cond (decide (e18 < e14)) (rec (IntKind.i64.wrap (y5 - 1))) (some y5)) (some y5)
def spec_l18Order_B1 (a0 : List (List Int)) (rec : ((List Int) × Int) → Option ((List Int))) (s : (List Int) × Int) : Option ((List Int)) := match s with
  | (y2, y3) => cond (decide (y3 < (List.length a0 : Int))) (obind (loopF (spec_l18Order_B2 a0 y2 y3) fz (List.length y2 : Int)) fun z7 => chk ((0 : Int) ≤ 0 ∧ 0 ≤ z7 ∧ z7 ≤ (List.length y2 : Int)) (chk (List.length ([] : List Int) + List.length (subl y2 0 z7) ≤ lim) (chk (List.length (([] : List Int) ++ (subl y2 0 z7)) + List.length [y3] ≤ lim) (chk ((0 : Int) ≤ z7 ∧ z7 ≤ (List.length y2 : Int) ∧ (List.length y2 : Int) ≤ (List.length y2 : Int)) (chk (List.length ((([] : List Int) ++ (subl y2 0 z7)) ++ [y3]) + List.length (subl y2 z7 (List.length y2 : Int)) ≤ lim) (rec ((((([] : List Int) ++ (subl y2 0 z7)) ++ [y3]) ++ (subl y2 z7 (List.length y2 : Int))), (IntKind.i64.wrap (y3 + 1))))))))) (some y2)
def spec_l18Order (a0 : List (List Int)) : Option ((List Int)) := obind (loopF (spec_l18Order_B1 a0) fz (([] : List Int), 0)) fun z2 => some z2
theorem spec_l18Order_s {a0 : List (List Int)} {r : (List Int)} (h : spec_l18Order a0 = some r) : SoundAt Tryz.prog 192 [dL c27_d a0] (oL 3 ci64 r) := by
 unfold spec_l18Order at h
 refine st lit192 rfl (rn 1 rfl (rs (qBs ci64 [] rfl rfl rfl zci64 (sp 1 rfl (evn (ls_seq_k fun K1 hK1 => rn 1 rfl ?_))))))
 obtain ⟨o1, hl, hr1⟩ := ob_some h
 have kXB1 : ∀ {z2 : List Int}, z2 = o1 → Jn K1 [(3, oL 3 ci64 z2)] := by
  intro z2 h σ' hk
  subst h
  replace h := hr1
  try dsimp only at h
  exact hK1 _ (lh hk rfl (rn 1 rfl (ls_ret ((by cases h; exact ⟨.inl rfl, rfl⟩)))))
 refine ls_rec (fun (s : (List Int) × Int) => match s with | (y2, y3) => [(0, dL c27_d a0), (3, oL 3 ci64 y2), (4, nI y3)]) _ _ _ _ hl (okr rfl) (fun _ => rfl) ?_
 rintro m ⟨y2, y3⟩ N h hN
 unfold spec_l18Order_B1 at h
 dsimp only at h
 refine ls_seq_k fun K3 hK3 => rn 1 rfl ?_
 rcases cond_some h with ⟨g4, h⟩ | ⟨g4, h⟩
 ·refine qT rfl g4 (ls_skip (hK3 _ (ls_seq_k fun K5 hK5 => ls_blk (rn 1 rfl (ls_seq_k fun K6 hK6 => ?_)))))
  obtain ⟨o2, hl, hr2⟩ := ob_some h
  have kXB2 : ∀ {z7 : Int}, z7 = o2 → Jn K6 [(0, dL c27_d a0), (3, oL 3 ci64 y2), (4, nI y3), (5, nI z7)] := by
   intro z7 h σ' hk
   subst h
   replace h := hr2
   try dsimp only at h
   refine hK6 _ (lh hk rfl (rgd (by kernel_rfl) (ed rfl (qBs ci64 [] rfl rfl rfl zci64 (sd 2 rfl (?_))))))
   obtain ⟨g21, h⟩ := chk_some h
   refine ed rfl (qSl rfl zci64 g21 (?_))
   obtain ⟨g22, h⟩ := chk_some h
   refine ed rfl (qA ci64 ([] : List Int) (subl y2 0 z7) rfl rfl (flat_len zci64 (subl y2 0 z7)) (map_dg (fun _ => rfl) _) g22 (sd 1 rfl (ed rfl (qBs ci64 [y3] rfl rfl rfl zci64 (?_)))))
   obtain ⟨g23, h⟩ := chk_some h
   refine ed rfl (qA ci64 (([] : List Int) ++ (subl y2 0 z7)) [y3] rfl rfl (flat_len zci64 [y3]) rfl g23 (sd 2 rfl (?_)))
   obtain ⟨g24, h⟩ := chk_some h
   refine ed rfl (qSl rfl zci64 g24 (?_))
   obtain ⟨g25, h⟩ := chk_some h
   exact ed rfl (qA ci64 ((([] : List Int) ++ (subl y2 0 z7)) ++ [y3]) (subl y2 z7 (List.length y2 : Int)) rfl rfl (flat_len zci64 (subl y2 z7 (List.length y2 : Int))) (map_dg (fun _ => rfl) _) g25 (sd 1 rfl (evdn (hK5 _ (rg (sp 3 rfl (evn (hN _ _ h (okr rfl)))))))))
  refine ls_rec (fun (y5 : Int) => [(0, dL c27_d a0), (3, oL 3 ci64 y2), (4, nI y3), (5, nI y5)]) _ _ _ _ hl (okr rfl) (fun _ => rfl) ?_
  rintro m y5 N h hN
  unfold spec_l18Order_B2 at h
  refine ls_seq_k fun K8 hK8 => rd (by kernel_rfl) (sd 3 rfl (?_))
  rcases cond_some h with ⟨g9, h⟩ | ⟨g9, h⟩
  ·refine qgd 17 g9 rfl (sd 4 rfl (?_))
   obtain ⟨e10, g11, h⟩ := ob_some h
   refine ed rfl (oGR rfl rfl (qI rfl zci64 g11 (sd 1 rfl (?_))))
   obtain ⟨e12, g13, h⟩ := ob_some h
   refine ed rfl (oGR rfl rfl (qI rfl zc27_d g13 (sd 1 rfl (?_))))
   obtain ⟨e14, g15, h⟩ := ob_some h
   refine ed rfl (oGR rfl rfl (qI rfl zci64 g15 (sd 3 rfl (?_))))
   obtain ⟨e16, g17, h⟩ := ob_some h
   refine ed rfl (oGR rfl rfl (qI rfl zc27_d g17 (sd 1 rfl (?_))))
   obtain ⟨e18, g19, h⟩ := ob_some h
   refine ed rfl (oGR rfl rfl (qI rfl zci64 g19 (sd 3 rfl (evdn ?_))))
   rcases cond_some h with ⟨g20, h⟩ | ⟨g20, h⟩
   ·exact qT rfl g20 (ls_skip (hK8 _ (ls_blk (rg (sp 3 rfl (evn (hN _ _ h (okr rfl))))))))
   ·exact qF rfl g20 (ls_exit (kXB2 (Option.some.inj h) _ (okr rfl)))
  ·exact qgd 17 g9 rfl (sd 18 rfl (evdn (qk [0, 3, 4, 5, 35] rfl (qF rfl rfl (ls_exit (kXB2 (Option.some.inj h) _ (okr rfl)))))))
 ·exact qF rfl g4 (ls_exit (kXB1 (Option.some.inj h) _ (okr rfl)))
def spec_SeekIndex_B1 (a0 : List Int) (a2 : Int) (rec : Int → Option (Int)) (y1 : Int) : Option (Int) := cond (decide (y1 < (List.length a0 : Int))) (obind (geti a0 y1) fun e5 => cond (decide (e5 < a2)) (rec (IntKind.i64.wrap (y1 + 1))) (some y1)) (some y1)
def spec_SeekIndex (a0 : List Int) (a1 : Int) (a2 : Int) : Option (Int) := obind (loopF (spec_SeekIndex_B1 a0 a2) fz (if 0 < a1 then a1 else 0)) fun z2 => some (if (if (List.length a0 : Int) < 0 then 0 else (List.length a0 : Int)) < z2 then (if (List.length a0 : Int) < 0 then 0 else (List.length a0 : Int)) else z2)
theorem spec_SeekIndex_s {a0 : List Int} {a1 : Int} {a2 : Int} {r : Int} (h : spec_SeekIndex a0 a1 a2 = some r) : SoundAt Tryz.prog 193 [dL ci64 a0, nI a1, nI a2] (nI r) := by
 unfold spec_SeekIndex at h
 refine st lit193 rfl (rn 2 rfl (ls_seq_k fun K1 hK1 => ?_))
 obtain ⟨o1, hl, hr1⟩ := ob_some h
 have kXB1 : ∀ {z2 : Int}, z2 = o1 → Jn K1 [(0, dL ci64 a0), (7, nI z2)] := by
  intro z2 h σ' hk
  subst h
  replace h := hr1
  try dsimp only at h
  exact hK1 _ (lh hk rfl (rn 1 rfl (ls_ret ((by cases h; exact ⟨.inl rfl, rfl⟩)))))
 refine ls_rec (fun (y1 : Int) => [(0, dL ci64 a0), (2, nI a2), (7, nI y1)]) _ _ _ _ hl (okr rfl) (fun _ => rfl) ?_
 rintro m y1 N h hN
 unfold spec_SeekIndex_B1 at h
 refine ls_seq_k fun K3 hK3 => rs (sp 5 rfl (?_))
 rcases cond_some h with ⟨g4, h⟩ | ⟨g4, h⟩
 ·refine qg 14 g4 rfl (sp 2 rfl (?_))
  obtain ⟨e5, g6, h⟩ := ob_some h
  refine oGR rfl rfl (qI rfl zci64 g6 (sp 4 rfl (evn ?_)))
  rcases cond_some h with ⟨g7, h⟩ | ⟨g7, h⟩
  ·exact qT rfl g7 (ls_skip (hK3 _ (ls_blk (rg (sp 3 rfl (evn (hN _ _ h (okr rfl))))))))
  ·exact qF rfl g7 (ls_exit (kXB1 (Option.some.inj h) _ (okr rfl)))
 ·exact qg 14 g4 rfl (sp 7 rfl (evn (qF rfl rfl (ls_exit (kXB1 (Option.some.inj h) _ (okr rfl))))))
def spec_LeapfrogIntersect_J2 (rec : ((List Int) × (List Int) × Int × Int × Int) → Option (Sum (Unit) ((List Int) × Int))) (a0 : List (List Int)) (v8 : (List Int)) (y3 : Int) (y5 : Int) (e17 : Int) (x26 : List Int) (x27 : List Int) : Option (Sum (Unit) ((List Int) × Int)) := obind (geti x27 e17) fun e29 => obind (geti a0 e17) fun e31 => cond (e29 == (List.length e31 : Int)) (some (.inr (x26, IntKind.i64.wrap (y5 + 1)))) (obind (geti a0 e17) fun e34 => obind (geti x27 e17) fun e36 => obind (geti e34 e36) fun e38 => chk ((List.length v8 : Int) ≠ 0) (rec (x26, x27, (Int.tmod (IntKind.i64.wrap (y3 + 1)) (List.length v8 : Int)), e38, (IntKind.i64.wrap (y5 + 1)))))
def spec_LeapfrogIntersect_B1 (a0 : List (List Int)) (v8 : (List Int)) (rec : ((List Int) × (List Int) × Int × Int × Int) → Option (Sum (Unit) ((List Int) × Int))) (s : (List Int) × (List Int) × Int × Int × Int) : Option (Sum (Unit) ((List Int) × Int)) := match s with
  | (y1, y2, y3, y4, y5) => obind (geti v8 y3) fun e17 => obind (geti a0 e17) fun e19 => obind (geti y2 e17) fun e21 => obind (geti e19 e21) fun e23 => cond (e23 == y4) (chk (List.length y1 + List.length [e23] ≤ lim) (obind (geti y2 e17) fun e43 => obind (geti y2 e17) fun e45 => spec_LeapfrogIntersect_J2 rec a0 v8 y3 y5 e17 (y1 ++ [e23]) (seti y2 e17 (IntKind.i64.wrap (e43 + 1))))) (obind (geti a0 e17) fun e47 => obind (geti y2 e17) fun e49 => obind (spec_SeekIndex e47 e49 y4) fun v51 => obind (geti y2 e17) fun e53 => spec_LeapfrogIntersect_J2 rec a0 v8 y3 y5 e17 y1 (seti y2 e17 v51))
def spec_LeapfrogIntersect (a0 : List (List Int)) : Option ((List Int) × Int) := obind (spec_l18All a0) fun v2 => cond (!v2) (some (([] : List Int), 0)) (obind (spec_ShortestLength a0) fun v5 => cond (v5 == 0) (some (([] : List Int), 0)) (obind (spec_l18Order a0) fun v8 => chk ((0 : Int) ≤ (List.length a0 : Int) ∧ Int.toNat (List.length a0 : Int) ≤ lim) (obind (geti v8 (IntKind.i64.wrap ((List.length v8 : Int) - 1))) fun e11 => obind (geti a0 e11) fun e13 => obind (geti e13 0) fun e15 => obind (loopF (spec_LeapfrogIntersect_B1 a0 v8) fz (([] : List Int), (List.replicate (Int.toNat (List.length a0 : Int)) (0 : Int)), 0, e15, 0)) fun o1 => (match o1 with
  | .inl _ => (none)
  | .inr r => some r))))
theorem spec_LeapfrogIntersect_s {a0 : List (List Int)} {r : (List Int) × Int} (h : spec_LeapfrogIntersect a0 = some r) : SoundAt Tryz.prog 182 [dL c27_d a0] (.tup [oL 3 ci64 r.1, nI r.2]) := by
 unfold spec_LeapfrogIntersect at h
 refine st lit182 rfl (rn 1 rfl (rs (qBs ci64 [] rfl rfl rfl zci64 (sp 1 rfl (evn (ls_seq_k fun K1 hK1 => rs (sp 1 rfl (?_))))))))
 obtain ⟨v2, g3, h⟩ := ob_some h
 refine qC (qa rfl (erD ec27_d _) eran) (spec_l18All_s g3) (sp 2 rfl (?_))
 rcases cond_some h with ⟨g4, h⟩ | ⟨g4, h⟩
 ·exact qg 16 g4 rfl (sp 4 rfl (evn (qT rfl rfl (rn 1 rfl (ls_ret ((by cases h; exact ⟨.inl rfl, rfl⟩)))))))
 ·refine qg 16 g4 rfl (sp 1 rfl (?_))
  obtain ⟨v5, g6, h⟩ := ob_some h
  refine oGR rfl rfl (qC (qa rfl (erD ec27_d _) eran) (spec_ShortestLength_s g6) (sp 2 rfl (evn ?_)))
  rcases cond_some h with ⟨g7, h⟩ | ⟨g7, h⟩
  ·exact qT rfl g7 (rn 1 rfl (ls_ret ((by cases h; exact ⟨.inl rfl, rfl⟩))))
  ·refine qF rfl g7 (ls_skip (hK1 _ (qk [0, 4] rfl (rs (sp 1 rfl (?_))))))
   obtain ⟨v8, g9, h⟩ := ob_some h
   refine qC (qa rfl (erD ec27_d _) eran) (spec_l18Order_s g9) (sp 1 rfl (evn (rs (sp 2 rfl (?_)))))
   obtain ⟨g10, h⟩ := chk_some h
   refine qMu ci64 (0 : Int) rfl rfl rfl rfl g10 rfl (qAu rfl rfl rfl rfl (evn (rn 1 rfl (rs (sp 5 rfl (?_))))))
   obtain ⟨e11, g12, h⟩ := ob_some h
   refine qI rfl zci64 g12 (sp 1 rfl (?_))
   obtain ⟨e13, g14, h⟩ := ob_some h
   refine qI rfl zc27_d g14 (sp 1 rfl (?_))
   obtain ⟨e15, g16, h⟩ := ob_some h
   refine qI rfl zci64 g16 (sp 2 rfl (evn (rn 1 rfl ?_)))
   obtain ⟨o1, hl, hr1⟩ := ob_some h
   refine ls_rec (fun (s : (List Int) × (List Int) × Int × Int × Int) => match s with | (y1, y2, y3, y4, y5) => [(0, dL c27_d a0), (4, oL 3 ci64 y1), (5, oL 3 ci64 v8), (6, wL 3 ci64 y2), (7, nI y3), (8, nI y4), (9, nI y5)]) _ _ _ _ hl (okr rfl) (fun _ => rfl) ?_
   rintro m ⟨y1, y2, y3, y4, y5⟩ N h hN
   unfold spec_LeapfrogIntersect_B1 at h
   dsimp only at h
   refine ls_blk (rs (sp 2 rfl (?_)))
   obtain ⟨e17, g18, h⟩ := ob_some h
   refine qI rfl zci64 g18 (sp 2 rfl (evn (rd (by kernel_rfl) (sd 2 rfl (?_)))))
   obtain ⟨e19, g20, h⟩ := ob_some h
   refine ed rfl (qI rfl zc27_d g20 (sd 3 rfl (?_)))
   obtain ⟨e21, g22, h⟩ := ob_some h
   refine ed rfl (qIu rfl ⟨(geti_some g22).1, (geti_some g22).2.1⟩ (ed rfl (qLu 0 rfl rfl rfl zci64 g22 rfl rfl rfl (?_))))
   obtain ⟨e23, g24, h⟩ := ob_some h
   refine ed rfl (qI rfl zci64 g24 (sd 2 rfl (evdn (rn 1 rfl (ls_seq_k fun K25 hK25 => rn 1 rfl ?_)))))
   have kJ2 : ∀ {x26 : List Int} {x27 : List Int}, spec_LeapfrogIntersect_J2 (loopF (spec_LeapfrogIntersect_B1 a0 v8) m) a0 v8 y3 y5 e17 x26 x27 = some o1 → Jn K25 [(0, dL c27_d a0), (4, oL 3 ci64 x26), (5, oL 3 ci64 v8), (6, wL 3 ci64 x27), (7, nI y3), (9, nI (IntKind.i64.wrap (y5 + 1))), (10, nI e17)] := by
    intro x26 x27 h σ' hk
    unfold spec_LeapfrogIntersect_J2 at h
    refine hK25 _ (lh hk rfl (ls_seq_k fun K28 hK28 => rd (by kernel_rfl) (sd 2 rfl (?_))))
    obtain ⟨e29, g30, h⟩ := ob_some h
    refine ed rfl (qIu rfl ⟨(geti_some g30).1, (geti_some g30).2.1⟩ (ed rfl (qLu 0 rfl rfl rfl zci64 g30 rfl rfl rfl (sd 2 rfl (?_)))))
    obtain ⟨e31, g32, h⟩ := ob_some h
    refine ed rfl (qI rfl zc27_d g32 (sd 3 rfl (evdn ?_)))
    rcases cond_some h with ⟨g33, h⟩ | ⟨g33, h⟩
    ·exact qT rfl g33 (rn 1 rfl (ls_ret ((by cases h; cases hr1; exact ⟨.inl rfl, rfl⟩))))
    ·refine qF rfl g33 (ls_skip (hK28 _ (rd (by kernel_rfl) (sd 2 rfl (?_)))))
     obtain ⟨e34, g35, h⟩ := ob_some h
     refine ed rfl (qI rfl zc27_d g35 (sd 3 rfl (?_)))
     obtain ⟨e36, g37, h⟩ := ob_some h
     refine ed rfl (qIu rfl ⟨(geti_some g37).1, (geti_some g37).2.1⟩ (ed rfl (qLu 0 rfl rfl rfl zci64 g37 rfl rfl rfl (?_))))
     obtain ⟨e38, g39, h⟩ := ob_some h
     refine ed rfl (qI rfl zci64 g39 (sd 2 rfl (evdn (rg (sp 4 rfl (?_))))))
     obtain ⟨g40, h⟩ := chk_some h
     exact qB rfl ⟨rfl, g40⟩ rfl (sp 1 rfl (evn (hN _ _ h (okr rfl))))
   rcases cond_some h with ⟨g41, h⟩ | ⟨g41, h⟩
   ·refine qT rfl g41 (rs (sp 2 rfl (qBs ci64 [e23] rfl rfl rfl zci64 (?_))))
    obtain ⟨g42, h⟩ := chk_some h
    refine qA ci64 y1 [e23] rfl rfl (flat_len zci64 [e23]) rfl g42 (sp 1 rfl (evn (qk [0, 4, 5, 6, 7, 9, 10] rfl (rg (sp 4 rfl (?_))))))
    obtain ⟨e43, g44, h⟩ := ob_some h
    refine qIu rfl ⟨(geti_some g44).1, (geti_some g44).2.1⟩ (qLu 0 rfl rfl rfl zci64 g44 rfl rfl rfl (sp 1 rfl (?_)))
    obtain ⟨e45, g46, h⟩ := ob_some h
    exact qIu rfl ⟨(geti_some g46).1, (geti_some g46).2.1⟩ (qSu (IntKind.i64.wrap (e43 + 1)) rfl rfl zci64 ⟨(geti_some g46).1, (geti_some g46).2.1⟩ rfl rfl rfl rfl rfl rfl (evn (kJ2 h _ (okr rfl))))
   ·refine qF rfl g41 (rgd (by kernel_rfl) (sd 4 rfl (?_)))
    obtain ⟨e47, g48, h⟩ := ob_some h
    refine ed rfl (qI rfl zc27_d g48 (sd 3 rfl (?_)))
    obtain ⟨e49, g50, h⟩ := ob_some h
    refine ed rfl (qIu rfl ⟨(geti_some g50).1, (geti_some g50).2.1⟩ (ed rfl (qLu 0 rfl rfl rfl zci64 g50 rfl rfl rfl (sd 1 rfl (?_)))))
    obtain ⟨v51, g52, h⟩ := ob_some h
    refine ed rfl (qC (qa rfl (erD eci64 _) (qs rfl (qs rfl eran))) (spec_SeekIndex_s g52) (?_))
    obtain ⟨e53, g54, h⟩ := ob_some h
    exact ed rfl (qIu rfl ⟨(geti_some g54).1, (geti_some g54).2.1⟩ (ed rfl (qSu v51 rfl rfl zci64 ⟨(geti_some g54).1, (geti_some g54).2.1⟩ rfl rfl rfl rfl rfl rfl (evdn (kJ2 h _ (okr rfl))))))
end Go.Proofs.YtlknpohjnpnodaaGreat
