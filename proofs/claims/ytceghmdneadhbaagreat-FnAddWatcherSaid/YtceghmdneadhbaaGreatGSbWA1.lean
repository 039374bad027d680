/-
  Functions of the program as typed functions, printed by gen.py, and that the program's functions do what they say. No conditions.
-/
import Derived.Test.YtceghmdneadhbaaGreatGSWA1
namespace Go.Proofs.YtceghmdneadhbaaGreat
open Go.RowKit
set_option linter.unusedVariables false
set_option maxRecDepth 100000
set_option maxHeartbeats 1000000
def impl_copyInts (a0 : List Int) : Option ((List Int)) := chk (List.length ([] : List Int) + List.length a0 <= lim) (some (([] : List Int) ++ a0))
theorem impl_copyInts_s {a0 : List Int} {r : (List Int)} (h : impl_copyInts a0 = some r) : SoundAt Tryz.prog 122 [dL ci64 a0] (oL 3 ci64 r) := by
 unfold impl_copyInts at h
 refine st lit122 rfl (rn 1 rfl (rs (qBs ci64 [] rfl rfl rfl zci64 (sp 1 rfl (?_)))))
 obtain ⟨g1, h⟩ := chk_some h
 exact qA ci64 ([] : List Int) a0 rfl rfl (flat_len zci64 a0) (map_dg (fun _ => rfl) _) g1 (sp 1 rfl (evn (ls_ret ((by cases h; exact ⟨.inl rfl, rfl⟩)))))
def impl_copyRows_B1 (a0 : List (List Int)) (rec : ((List (List Int)) × Int) -> Option ((List (List Int)))) (s : (List (List Int)) × Int) : Option ((List (List Int))) := match s with
  | (y1, y2) => cond (decide (y2 < (List.length a0 : Int))) (obind (geti a0 y2) fun e6 => obind (impl_copyInts e6) fun v8 => chk (List.length y1 + List.length [v8] <= lim) (rec ((y1 ++ [v8]), (IntKind.i64.wrap (y2 + 1))))) (some y1)
def impl_copyRows (a0 : List (List Int)) : Option ((List (List Int))) := obind (loopF (impl_copyRows_B1 a0) fz (([] : List (List Int)), 0)) fun z2 => some z2
theorem impl_copyRows_s {a0 : List (List Int)} {r : (List (List Int))} (h : impl_copyRows a0 = some r) : SoundAt Tryz.prog 121 [dL c53_d a0] (oL 53 c53_o r) := by
 unfold impl_copyRows at h
 refine st lit121 rfl (rn 2 rfl (ls_seq_k fun K1 hK1 => rn 1 rfl ?_))
 obtain ⟨o1, hl, hr1⟩ := ob_some h
 have kXB1 : ∀ {z2 : List (List Int)}, z2 = o1 -> Jn K1 [(3, oL 53 c53_o z2)] := by
  intro z2 h σ' hk
  subst h
  replace h := hr1
  try dsimp only at h
  exact hK1 _ (lh hk rfl (rn 1 rfl (ls_ret ((by cases h; exact ⟨.inl rfl, rfl⟩)))))
 refine ls_rec (fun (s : (List (List Int)) × Int) => match s with | (y1, y2) => [(3, oL 53 c53_o y1), (6, dL c53_d a0), (7, nI (List.length a0 : Int)), (8, nI y2)]) _ _ _ _ hl (okr rfl) (fun _ => rfl) ?_
 rintro m ⟨y1, y2⟩ N h hN
 unfold impl_copyRows_B1 at h
 dsimp only at h
 refine rn 1 rfl (ls_seq_k fun K3 hK3 => ?_)
 rcases cond_some h with ⟨g4, h⟩ | ⟨g4, h⟩
 ·refine qT rfl g4 (ls_skip (hK3 _ (ls_seq_k fun K5 hK5 => ls_blk (rs ?_))))
  obtain ⟨e6, g7, h⟩ := ob_some h
  refine qI rfl zc53_d g7 (sp 2 rfl (evn (rg (sp 2 rfl (?_)))))
  obtain ⟨v8, g9, h⟩ := ob_some h
  refine qC (qa rfl (erD eci64 _) eran) (impl_copyInts_s g9) (qBs c53_o [v8] rfl rfl rfl zc53_o (?_))
  obtain ⟨g10, h⟩ := chk_some h
  exact qA c53_o y1 [v8] rfl rfl (flat_len zc53_o [v8]) rfl g10 (sp 1 rfl (evn (hK5 _ (rg (sp 2 rfl (evn (hN _ _ h (okr rfl))))))))
 ·exact qF rfl g4 (ls_exit (kXB1 (Option.some.inj h) _ (okr rfl)))
def impl_copyRelation (a0 : Y42) : Option (Y42) := obind (impl_copyRows a0.2) fun v1 => some (a0.1, v1)
theorem impl_copyRelation_s {a0 : Y42} {r : Y42} (h : impl_copyRelation a0 = some r) : SoundAt Tryz.prog 132 [.agg (c43_dd a0)] (.agg (c43_oo r)) := by
 unfold impl_copyRelation at h
 refine st lit132 rfl (rn 1 rfl (rd (by kernel_rfl) (sd 4 rfl (?_))))
 obtain ⟨v1, g2, h⟩ := ob_some h
 exact ed rfl (qC (qa rfl (erD ec53_d _) eran) (impl_copyRows_s g2) (sd 2 rfl (evdn (ls_ret ((by cases h; exact ⟨.inl rfl, rfl⟩))))))
def impl_LookupRelation_J1  : Option (Y42 × Bool) := some ((0, []), false)
def impl_LookupRelation_B2 (a0 : List Y119) (a1 : List UInt8) (rec : Int -> Option (Sum (Unit) (Y42 × Bool))) (y2 : Int) : Option (Sum (Unit) (Y42 × Bool)) := cond (decide (y2 < (List.length a0 : Int))) (obind (geti a0 y2) fun e8 => cond (e8.1 == a1) (obind (impl_copyRelation e8.2) fun v11 => some (.inr (v11, true))) (rec (IntKind.i64.wrap (y2 + 1)))) (some (.inl ()))
def impl_LookupRelation (a0 : List Y119) (a1 : List UInt8) : Option (Y42 × Bool) := obind (impl_IsValidDatabase a0) fun v2 => cond v2 (obind (loopF (impl_LookupRelation_B2 a0 a1) fz 0) fun o2 => (match o2 with
  | .inl _ => (impl_LookupRelation_J1 )
  | .inr r => some r)) (impl_LookupRelation_J1 )
theorem impl_LookupRelation_s {a0 : List Y119} {a1 : List UInt8} {r : Y42 × Bool} (h : impl_LookupRelation a0 a1 = some r) : SoundAt Tryz.prog 189 [.agg [dL c120_dd a0], .str a1] (.tup [.agg (c43_oo r.1), .bool r.2]) := by
 unfold impl_LookupRelation at h
 refine st lit189 rfl (rn 1 rfl (ls_seq_k fun K1 hK1 => rs (sp 1 rfl (?_))))
 obtain ⟨v2, g3, h⟩ := ob_some h
 refine qC (qa rfl (erg (erc (erD ec120_dd _) rfl)) eran) (impl_IsValidDatabase_s g3) (evn ?_)
 have kJ1 : impl_LookupRelation_J1 = some r -> Jn K1 [(4, .box [nI 0, oL 53 c53_o []])] := by
  intro h σ' hk
  unfold impl_LookupRelation_J1 at h
  exact hK1 _ (lh hk rfl (rn 1 rfl (ls_ret ((by cases h; exact ⟨.inl rfl, rfl⟩)))))
 rcases cond_some h with ⟨g4, h⟩ | ⟨g4, h⟩
 ·refine qT rfl g4 (rn 1 rfl ?_)
  obtain ⟨o2, hl, hr2⟩ := ob_some h
  have kXB2 : (.inl ()) = o2 -> Jn K1 [(4, .box [nI 0, oL 53 c53_o []])] := by
   intro h σ' hk
   subst h
   replace h := hr2
   try dsimp only at h
   exact kJ1 h _ ⟨hk.1, trivial⟩
  refine ls_rec (fun (y2 : Int) => [(1, .str a1), (4, .box [nI 0, oL 53 c53_o []]), (11, dL c120_dd a0), (12, nI (List.length a0 : Int)), (13, nI y2)]) _ _ _ _ hl (okr rfl) (fun _ => rfl) ?_
  rintro m y2 N h hN
  unfold impl_LookupRelation_B2 at h
  refine rn 1 rfl (ls_seq_k fun K5 hK5 => ?_)
  rcases cond_some h with ⟨g6, h⟩ | ⟨g6, h⟩
  ·refine qT rfl g6 (ls_skip (hK5 _ (ls_seq_k fun K7 hK7 => ls_blk (rs ?_))))
   obtain ⟨e8, g9, h⟩ := ob_some h
   refine qI rfl zc120_dd g9 (sp 3 rfl (evn (rn 1 rfl ?_)))
   rcases cond_some h with ⟨g10, h⟩ | ⟨g10, h⟩
   ·refine qT rfl g10 (rs (sp 2 rfl (?_)))
    obtain ⟨v11, g12, h⟩ := ob_some h
    exact qC (qa rfl (erg (erc rfl (erc (erD ec53_d _) rfl))) eran) (impl_copyRelation_s g12) (sp 2 rfl (evn (ls_ret ((by cases h; cases hr2; exact ⟨.inl rfl, rfl⟩)))))
   ·exact qF rfl g10 (ls_skip (hK7 _ (rg (sp 2 rfl (evn (hN _ _ h (okr rfl)))))))
  ·exact qF rfl g6 (ls_exit (kXB2 (Option.some.inj h) _ (okr rfl)))
 ·exact qF rfl g4 (ls_skip (kJ1 h _ (okr rfl)))
def impl_IsQueryFor_B1 (a0 : List Y119) (a1 : Y54) (rec : Int -> Option (Sum (Unit) (Bool))) (y1 : Int) : Option (Sum (Unit) (Bool)) := cond (decide (y1 < (List.length a1.2.1 : Int))) (obind (geti a1.2.1 y1) fun e12 => obind (impl_LookupRelation a0 e12.1) fun v14 => cond (!v14.2) (some (.inr false)) (cond (v14.1.1 != (List.length e12.2 : Int)) (some (.inr false)) (rec (IntKind.i64.wrap (y1 + 1))))) (some (.inl ()))
def impl_IsQueryFor (a0 : List Y119) (a1 : Y54) : Option (Bool) := obind (impl_IsValidQuery a1) fun v2 => cond (!v2) (some false) (obind (impl_IsValidDatabase a0) fun v5 => cond (!v5) (some false) (obind (loopF (impl_IsQueryFor_B1 a0 a1) fz 0) fun o1 => (match o1 with
  | .inl _ => (some true)
  | .inr r => some r)))
theorem impl_IsQueryFor_s {a0 : List Y119} {a1 : Y54} {r : Bool} (h : impl_IsQueryFor a0 a1 = some r) : SoundAt Tryz.prog 164 [.agg [dL c120_dd a0], .agg (c55_ddd a1)] (.bool r) := by
 unfold impl_IsQueryFor at h
 refine st lit164 rfl (rn 1 rfl (ls_seq_k fun K1 hK1 => rs (sp 1 rfl (?_))))
 obtain ⟨v2, g3, h⟩ := ob_some h
 refine qC (qa rfl (erg (erc rfl (erc (erD ec148_d _) (erc (erD eci64 _) rfl)))) eran) (impl_IsValidQuery_s g3) (sp 2 rfl (?_))
 rcases cond_some h with ⟨g4, h⟩ | ⟨g4, h⟩
 ·exact qg 12 g4 rfl (sp 4 rfl (evn (qT rfl rfl (rn 1 rfl (ls_ret ((by cases h; exact ⟨.inl rfl, rfl⟩)))))))
 ·refine qg 12 g4 rfl (sp 1 rfl (?_))
  obtain ⟨v5, g6, h⟩ := ob_some h
  refine oGR rfl rfl (qC (qa rfl (erg (erc (erD ec120_dd _) rfl)) eran) (impl_IsValidDatabase_s g6) (sp 2 rfl (evn ?_)))
  rcases cond_some h with ⟨g7, h⟩ | ⟨g7, h⟩
  ·exact qT rfl g7 (rn 1 rfl (ls_ret ((by cases h; exact ⟨.inl rfl, rfl⟩))))
  ·refine qF rfl g7 (ls_skip (hK1 _ (ls_seq_k fun K8 hK8 => rn 1 rfl (qk [2, 18, 19, 20] rfl ?_))))
   obtain ⟨o1, hl, hr1⟩ := ob_some h
   have kXB1 : (.inl ()) = o1 -> Jn K8 [] := by
    intro h σ' hk
    subst h
    replace h := hr1
    try dsimp only at h
    exact hK8 _ (lh hk rfl (rn 1 rfl (ls_ret ((by cases h; exact ⟨.inl rfl, rfl⟩)))))
   refine ls_rec (fun (y1 : Int) => [(2, .box [dL c120_dd a0]), (18, dL c148_d a1.2.1), (19, nI (List.length a1.2.1 : Int)), (20, nI y1)]) _ _ _ _ hl (okr rfl) (fun _ => rfl) ?_
   rintro m y1 N h hN
   unfold impl_IsQueryFor_B1 at h
   refine rn 1 rfl (ls_seq_k fun K9 hK9 => ?_)
   rcases cond_some h with ⟨g10, h⟩ | ⟨g10, h⟩
   ·refine qT rfl g10 (ls_skip (hK9 _ (ls_seq_k fun K11 hK11 => ls_blk (rs ?_))))
    obtain ⟨e12, g13, h⟩ := ob_some h
    refine qI rfl zc148_d g13 (sp 3 rfl (evn (rs (sp 3 rfl (?_)))))
    obtain ⟨v14, g15, h⟩ := ob_some h
    refine qC (qa rfl (erg (erc (erD ec120_dd _) rfl)) (qs rfl eran)) (impl_LookupRelation_s g15) (sp 6 rfl (evn (rs (sp 3 rfl (?_)))))
    rcases cond_some h with ⟨g16, h⟩ | ⟨g16, h⟩
    ·exact qg 33 g16 rfl (sp 7 rfl (evn (qT rfl rfl (rn 1 rfl (qk [4] rfl (ls_ret ((by cases h; cases hr1; exact ⟨.inl rfl, rfl⟩))))))))
    ·refine qg 33 g16 rfl (sp 7 rfl (evn ?_))
     rcases cond_some h with ⟨g17, h⟩ | ⟨g17, h⟩
     ·exact qT rfl g17 (rn 1 rfl (ls_ret ((by cases h; cases hr1; exact ⟨.inl rfl, rfl⟩))))
     ·exact qF rfl g17 (ls_skip (hK11 _ (rg (sp 2 rfl (evn (hN _ _ h (okr rfl)))))))
   ·exact qF rfl g10 (ls_exit (kXB1 (Option.some.inj h) _ trivial))
def impl_ContainsVariable (a0 : Y147) (a1 : Int) : Option (Bool) := obind (impl_hasInt a0.2 a1) fun v1 => some v1
theorem impl_ContainsVariable_s {a0 : Y147} {a1 : Int} {r : Bool} (h : impl_ContainsVariable a0 a1 = some r) : SoundAt Tryz.prog 197 [.agg (c148_d a0), nI a1] (.bool r) := by
 unfold impl_ContainsVariable at h
 refine st lit197 rfl (rn 1 rfl (rs (sp 3 rfl (?_))))
 obtain ⟨v1, g2, h⟩ := ob_some h
 exact qC (qa rfl (erD eci64 _) (qs rfl eran)) (impl_hasInt_s g2) (sp 1 rfl (evn (ls_ret ((by cases h; exact ⟨.inl rfl, rfl⟩)))))
def impl_AtomVariables_J2 (rec : ((List Int) × Int) -> Option ((List Int))) (y2 : Int) (x8 : List Int) : Option ((List Int)) := rec (x8, (IntKind.i64.wrap (y2 + 1)))
def impl_AtomVariables_B1 (a0 : Y147) (rec : ((List Int) × Int) -> Option ((List Int))) (s : (List Int) × Int) : Option ((List Int)) := match s with
  | (y1, y2) => cond (decide (y2 < 5)) (obind (impl_ContainsVariable a0 y2) fun v6 => cond v6 (chk (List.length y1 + List.length [y2] <= lim) (impl_AtomVariables_J2 rec y2 (y1 ++ [y2]))) (impl_AtomVariables_J2 rec y2 y1)) (some y1)
def impl_AtomVariables (a0 : Y147) : Option ((List Int)) := obind (loopF (impl_AtomVariables_B1 a0) fz (([] : List Int), 0)) fun z2 => some z2
theorem impl_AtomVariables_s {a0 : Y147} {r : (List Int)} (h : impl_AtomVariables a0 = some r) : SoundAt Tryz.prog 190 [.agg (c148_d a0)] (oL 3 ci64 r) := by
 unfold impl_AtomVariables at h
 refine st lit190 rfl (rn 2 rfl (ls_seq_k fun K1 hK1 => rn 1 rfl ?_))
 obtain ⟨o1, hl, hr1⟩ := ob_some h
 have kXB1 : ∀ {z2 : List Int}, z2 = o1 -> Jn K1 [(3, oL 3 ci64 z2)] := by
  intro z2 h σ' hk
  subst h
  replace h := hr1
  try dsimp only at h
  exact hK1 _ (lh hk rfl (rn 1 rfl (ls_ret ((by cases h; exact ⟨.inl rfl, rfl⟩)))))
 refine ls_rec (fun (s : (List Int) × Int) => match s with | (y1, y2) => [(1, .box [.str a0.1, dL ci64 a0.2]), (3, oL 3 ci64 y1), (4, nI y2)]) _ _ _ _ hl (okr rfl) (fun _ => rfl) ?_
 rintro m ⟨y1, y2⟩ N h hN
 unfold impl_AtomVariables_B1 at h
 dsimp only at h
 refine ls_seq_k fun K3 hK3 => rn 1 rfl ?_
 rcases cond_some h with ⟨g4, h⟩ | ⟨g4, h⟩
 ·refine qT rfl g4 (ls_skip (hK3 _ (ls_seq_k fun K5 hK5 => ls_blk (rs (sp 2 rfl (?_))))))
  obtain ⟨v6, g7, h⟩ := ob_some h
  refine qC (qa rfl (erg (erc rfl (erc (erD eci64 _) rfl))) (qs rfl eran)) (impl_ContainsVariable_s g7) (evn ?_)
  have kJ2 : ∀ {x8 : List Int}, impl_AtomVariables_J2 (loopF (impl_AtomVariables_B1 a0) m) y2 x8 = some o1 -> Jn K5 [(1, .box [.str a0.1, dL ci64 a0.2]), (3, oL 3 ci64 x8), (4, nI y2)] := by
   intro x8 h σ' hk
   unfold impl_AtomVariables_J2 at h
   exact hK5 _ (lh hk rfl (rg (sp 3 rfl (evn (hN _ _ h (okr rfl))))))
  rcases cond_some h with ⟨g9, h⟩ | ⟨g9, h⟩
  ·refine qT rfl g9 (rg (sp 2 rfl (qBs ci64 [y2] rfl rfl rfl zci64 (?_))))
   obtain ⟨g10, h⟩ := chk_some h
   exact qA ci64 y1 [y2] rfl rfl (flat_len zci64 [y2]) rfl g10 (sp 1 rfl (evn (kJ2 h _ (okr rfl))))
  ·exact qF rfl g9 (ls_skip (kJ2 h _ (okr rfl)))
 ·exact qF rfl g4 (ls_exit (kXB1 (Option.some.inj h) _ (okr rfl)))
def impl_sorted_J5 (rec : ((List (Nat × (List Int))) × (List (Nat × (List Int))) × (List (Nat × (List Int)))) -> Option ((List (Nat × (List Int))))) (y2 : List (Nat × (List Int))) (x20 : List (Nat × (List Int))) (x24 : List (Nat × (List Int))) : Option ((List (Nat × (List Int)))) := chk ((0 : Int) <= 1 ∧ 1 <= (List.length y2 : Int) ∧ (List.length y2 : Int) <= (List.length y2 : Int)) (rec (x20, (subl y2 1 (List.length y2 : Int)), x24))
def impl_sorted_J4 (rec : ((List (Nat × (List Int))) × (List (Nat × (List Int))) × (List (Nat × (List Int)))) -> Option ((List (Nat × (List Int))))) (y2 : List (Nat × (List Int))) (x18 : Int) (x20 : List (Nat × (List Int))) (x21 : List (Nat × (List Int))) : Option ((List (Nat × (List Int)))) := cond (decide (0 <= x18)) (cond (decide (0 < x18)) (obind (geti y2 0) fun e27 => chk (List.length x21 + List.length [e27] <= lim) (impl_sorted_J5 rec y2 x20 (x21 ++ [e27]))) (impl_sorted_J5 rec y2 x20 x21)) (rec (x20, y2, x21))
def impl_sorted_J3 (rec : ((List (Nat × (List Int))) × (List (Nat × (List Int))) × (List (Nat × (List Int)))) -> Option ((List (Nat × (List Int))))) (y1 : List (Nat × (List Int))) (y2 : List (Nat × (List Int))) (y3 : List (Nat × (List Int))) (x18 : Int) : Option ((List (Nat × (List Int)))) := cond (decide (x18 <= 0)) (obind (geti y1 0) fun e31 => chk (List.length y3 + List.length [e31] <= lim) (chk ((0 : Int) <= 1 ∧ 1 <= (List.length y1 : Int) ∧ (List.length y1 : Int) <= (List.length y1 : Int)) (impl_sorted_J4 rec y2 x18 (subl y1 1 (List.length y1 : Int)) (y3 ++ [e31])))) (impl_sorted_J4 rec y2 x18 y1 y3)
def impl_sorted_J2 (rec : ((List (Nat × (List Int))) × (List (Nat × (List Int))) × (List (Nat × (List Int)))) -> Option ((List (Nat × (List Int))))) (y1 : List (Nat × (List Int))) (y2 : List (Nat × (List Int))) (y3 : List (Nat × (List Int))) (x15 : Bool) : Option ((List (Nat × (List Int)))) := cond x15 (cond ((List.length y1 : Int) == 0) (impl_sorted_J3 rec y1 y2 y3 1) (cond (decide (0 < (List.length y2 : Int))) (obind (geti y1 0) fun e37 => obind (geti y2 0) fun e39 => obind (impl_CompareRows e37.2 e39.2) fun v41 => impl_sorted_J3 rec y1 y2 y3 v41) (impl_sorted_J3 rec y1 y2 y3 (-1)))) (some y3)
def impl_sorted_B1  (rec : ((List (Nat × (List Int))) × (List (Nat × (List Int))) × (List (Nat × (List Int)))) -> Option ((List (Nat × (List Int))))) (s : (List (Nat × (List Int))) × (List (Nat × (List Int))) × (List (Nat × (List Int)))) : Option ((List (Nat × (List Int)))) := match s with
  | (y1, y2, y3) => cond (decide (0 < (List.length y1 : Int))) (impl_sorted_J2 rec y1 y2 y3 true) (impl_sorted_J2 rec y1 y2 y3 (decide (0 < (List.length y2 : Int))))
def impl_sorted_R (rec : ((List (List Int))) -> Option ((List (List Int)))) (a0 : (List (List Int))) : Option ((List (List Int))) := cond (decide ((List.length a0 : Int) < 2)) (obind (impl_copyRows a0) fun v3 => some v3) (chk ((0 : Int) <= 0 ∧ 0 <= IntKind.i64.wrap (Int.tdiv (List.length a0 : Int) 2) ∧ IntKind.i64.wrap (Int.tdiv (List.length a0 : Int) 2) <= (List.length a0 : Int)) (obind (rec (subl a0 0 (IntKind.i64.wrap (Int.tdiv (List.length a0 : Int) 2)))) fun v6 => chk ((0 : Int) <= IntKind.i64.wrap (Int.tdiv (List.length a0 : Int) 2) ∧ IntKind.i64.wrap (Int.tdiv (List.length a0 : Int) 2) <= (List.length a0 : Int) ∧ (List.length a0 : Int) <= (List.length a0 : Int)) (obind (rec (subl a0 (IntKind.i64.wrap (Int.tdiv (List.length a0 : Int) 2)) (List.length a0 : Int))) fun v9 => obind (loopF impl_sorted_B1 fz ((enumP 0 v6), (enumP (List.length v6) v9), ([] : List (Nat × (List Int))))) fun z12 => chk (okJ (v6 ++ v9) (List.map Sum.inl z12) [] = true) (some (List.map getM (List.map Sum.inl z12))))))
def impl_sorted (a0 : List (List Int)) : Option ((List (List Int))) := loopF impl_sorted_R fz a0
theorem impl_sorted_s {a0 : List (List Int)} {r : (List (List Int))} (h : impl_sorted a0 = some r) : SoundAt Tryz.prog 168 [dL c53_d a0] (oL 53 c53_o r) := by
 suffices key : ∀ mF (a0 : List (List Int)) (r : (List (List Int))), loopF impl_sorted_R mF a0 = some r -> SoundAt Tryz.prog 168 [dL c53_d a0] (oL 53 c53_o r) from key fz a0 r h
 intro mF
 induction mF with
 | zero => intro a0 r h; cases h
 | succ mF ih0 =>
  intro a0 r h
  have ih : ∀ {a0 : List (List Int)} {r : (List (List Int))}, loopF impl_sorted_R mF a0 = some r -> SoundAt Tryz.prog 168 [dL c53_d a0] (oL 53 c53_o r) := fun h => ih0 _ _ h
  change impl_sorted_R (loopF impl_sorted_R mF) a0 = some r at h
  unfold impl_sorted_R at h
  try dsimp only at h
  refine st lit168 rfl (rn 1 rfl (ls_seq_k fun K1 hK1 => rn 1 rfl ?_))
  rcases cond_some h with ⟨g2, h⟩ | ⟨g2, h⟩
  ·refine qT rfl g2 (rs (sp 1 rfl (?_)))
   obtain ⟨v3, g4, h⟩ := ob_some h
   exact qC (qa rfl (erD ec53_d _) eran) (impl_copyRows_s g4) (sp 1 rfl (evn (ls_ret ((by cases h; exact ⟨.inl rfl, rfl⟩)))))
  ·refine qF rfl g2 (ls_skip (hK1 _ (rn 1 rfl (rd (by kernel_rfl) (sd 2 rfl (?_))))))
   obtain ⟨g5, h⟩ := chk_some h
   refine ed rfl (qSl rfl zc53_d g5 (?_))
   obtain ⟨v6, g7, h⟩ := ob_some h
   refine ed rfl (qC (qa rfl (erD ec53_d _) eran) (ih g7) (sd 2 rfl (?_)))
   obtain ⟨g8, h⟩ := chk_some h
   refine ed rfl (qSl rfl zc53_d g8 (?_))
   obtain ⟨v9, g10, h⟩ := ob_some h
   refine ed rfl (qC (qa rfl (erD ec53_d _) eran) (ih g10) (sd 2 rfl (evdn (qk [4, 5] rfl (ls_split2 (f := c53_o) (s1 := 4) (s2 := 5) (g1 := 900001) (g2 := 900002) rfl rfl rfl rfl ⟨by decide, by decide, by decide, by decide, by decide, by decide⟩ (split_own (fun _ => rfl)) (split_own (fun _ => rfl)) (fun _ => rfl) (fun _ => rfl) (fun _ => rfl) (fun _ => rfl) ?_)))))
   intro U us1 us2 hu1 hu2 hU
   refine kp [(4, oL 53 (pE c53_o U) (enumP 0 v6)), (5, oL 53 (pE c53_o U) (enumP (List.length v6) v9)), (900001, .gh us1 (List.map (fun x => tokC (c53_o x)) v6)), (900002, .gh us2 (List.map (fun x => tokC (c53_o x)) v9))] rfl rfl (rn 1 rfl (ls_seq_k fun K11 hK11 => ?_))
   obtain ⟨o1, hl, hr1⟩ := ob_some h
   have kXB1 : ∀ {z12 : List (Nat × (List Int))}, z12 = o1 -> Jn K11 [(6, oL 53 (pE c53_o U) z12), (900001, .gh us1 (List.map (fun x => tokC (c53_o x)) v6)), (900002, .gh us2 (List.map (fun x => tokC (c53_o x)) v9))] := by
    intro z12 h σ' hk
    subst h
    replace h := hr1
    try dsimp only at h
    refine hK11 _ (lh hk rfl (qk [6, 900001, 900002] rfl ?_))
    obtain ⟨g44, h⟩ := chk_some h
    exact ls_merge (g1 := 900001) (g2 := 900002) rfl rfl (by decide) (ls_join1 (f := c53_o) (s := 6) (q := 900001) (l := v6 ++ v9) (U := U) (L := List.map Sum.inl z12) own_inl rfl List.map_append.symm (by decide) (join_own (fun _ => rfl)) hU g44 rfl rfl (kp [(6, oL 53 c53_o (List.map getM (List.map Sum.inl z12)))] rfl rfl (rn 1 rfl (ls_ret ((by cases h; exact ⟨.inl rfl, rfl⟩))))))
   refine ls_rec (fun (s : (List (Nat × (List Int))) × (List (Nat × (List Int))) × (List (Nat × (List Int)))) => match s with | (y1, y2, y3) => [(4, dL (pE c53_o U) y1), (5, dL (pE c53_o U) y2), (6, oL 53 (pE c53_o U) y3), (900001, .gh us1 (List.map (fun x => tokC (c53_o x)) v6)), (900002, .gh us2 (List.map (fun x => tokC (c53_o x)) v9))]) _ _ _ _ hl ⟨(kd rfl rfl), (kd rfl rfl), kr, kr, kr, trivial⟩ (fun _ => rfl) ?_
   rintro m ⟨y1, y2, y3⟩ N h hN
   unfold impl_sorted_B1 at h
   dsimp only at h
   refine ls_seq_k fun K13 hK13 => rk fun K14 hK14 => ?_
   have kJ2 : ∀ {x15 : Bool}, impl_sorted_J2 (loopF impl_sorted_B1 m) y1 y2 y3 x15 = some o1 -> Jn K14 [(4, dL (pE c53_o U) y1), (5, dL (pE c53_o U) y2), (6, oL 53 (pE c53_o U) y3), (31, .bool x15), (900001, .gh us1 (List.map (fun x => tokC (c53_o x)) v6)), (900002, .gh us2 (List.map (fun x => tokC (c53_o x)) v9))] := by
    intro x15 h σ' hk
    unfold impl_sorted_J2 at h
    refine hK14 _ (lh hk rfl ?_)
    rcases cond_some h with ⟨g16, h⟩ | ⟨g16, h⟩
    ·refine qT rfl g16 (ls_skip (hK13 _ (ls_blk (rn 1 rfl (ls_seq_k fun K17 hK17 => rn 1 rfl ?_)))))
     have kJ3 : ∀ {x18 : Int}, impl_sorted_J3 (loopF impl_sorted_B1 m) y1 y2 y3 x18 = some o1 -> Jn K17 [(4, dL (pE c53_o U) y1), (5, dL (pE c53_o U) y2), (6, oL 53 (pE c53_o U) y3), (7, nI x18), (900001, .gh us1 (List.map (fun x => tokC (c53_o x)) v6)), (900002, .gh us2 (List.map (fun x => tokC (c53_o x)) v9))] := by
      intro x18 h σ' hk
      unfold impl_sorted_J3 at h
      refine hK17 _ (lh hk rfl (ls_seq_k fun K19 hK19 => rn 1 rfl ?_))
      have kJ4 : ∀ {x20 : List (Nat × (List Int))} {x21 : List (Nat × (List Int))}, impl_sorted_J4 (loopF impl_sorted_B1 m) y2 x18 x20 x21 = some o1 -> Jn K19 [(4, dL (pE c53_o U) x20), (5, dL (pE c53_o U) y2), (6, oL 53 (pE c53_o U) x21), (7, nI x18), (900001, .gh us1 (List.map (fun x => tokC (c53_o x)) v6)), (900002, .gh us2 (List.map (fun x => tokC (c53_o x)) v9))] := by
       intro x20 x21 h σ' hk
       unfold impl_sorted_J4 at h
       refine hK19 _ (lh hk rfl (rn 1 rfl ?_))
       rcases cond_some h with ⟨g22, h⟩ | ⟨g22, h⟩
       ·refine qT rfl g22 (ls_seq_k fun K23 hK23 => rn 1 rfl ?_)
        have kJ5 : ∀ {x24 : List (Nat × (List Int))}, impl_sorted_J5 (loopF impl_sorted_B1 m) y2 x20 x24 = some o1 -> Jn K23 [(4, dL (pE c53_o U) x20), (5, dL (pE c53_o U) y2), (6, oL 53 (pE c53_o U) x24), (900001, .gh us1 (List.map (fun x => tokC (c53_o x)) v6)), (900002, .gh us2 (List.map (fun x => tokC (c53_o x)) v9))] := by
         intro x24 h σ' hk
         unfold impl_sorted_J5 at h
         refine hK23 _ (lh hk rfl (rg (sp 1 rfl (?_))))
         obtain ⟨g25, h⟩ := chk_some h
         exact qSl rfl (zpE zc53_o) g25 (sp 1 rfl (evn (hN _ _ h (okr rfl))))
        rcases cond_some h with ⟨g26, h⟩ | ⟨g26, h⟩
        ·refine qT rfl g26 (rg (sp 2 rfl (?_)))
         obtain ⟨e27, g28, h⟩ := ob_some h
         refine qI rfl (zpE zc53_o) g28 (sp 1 rfl (qBs (pE c53_o U) [e27] rfl rfl rfl (zpE zc53_o) (?_)))
         obtain ⟨g29, h⟩ := chk_some h
         exact qA (pE c53_o U) x21 [e27] rfl rfl (flat_len (zpE zc53_o) [e27]) rfl g29 (sp 1 rfl (evn (kJ5 h _ (okr rfl))))
        ·exact qF rfl g26 (ls_skip (kJ5 h _ (okr rfl)))
       ·exact qF rfl g22 (ls_skip (hN _ _ h (okr rfl)))
      rcases cond_some h with ⟨g30, h⟩ | ⟨g30, h⟩
      ·refine qT rfl g30 (rs (sp 2 rfl (?_)))
       obtain ⟨e31, g32, h⟩ := ob_some h
       refine qI rfl (zpE zc53_o) g32 (sp 1 rfl (qBs (pE c53_o U) [e31] rfl rfl rfl (zpE zc53_o) (?_)))
       obtain ⟨g33, h⟩ := chk_some h
       refine qA (pE c53_o U) y3 [e31] rfl rfl (flat_len (zpE zc53_o) [e31]) rfl g33 (sp 1 rfl (evn (rg (sp 1 rfl (?_)))))
       obtain ⟨g34, h⟩ := chk_some h
       exact qSl rfl (zpE zc53_o) g34 (sp 1 rfl (evn (kJ4 h _ (okr rfl))))
      ·exact qF rfl g30 (ls_skip (kJ4 h _ (okr rfl)))
     rcases cond_some h with ⟨g35, h⟩ | ⟨g35, h⟩
     ·exact qT rfl g35 (rg (sp 1 rfl (evn (kJ3 h _ (okr rfl)))))
     ·refine qF rfl g35 (rn 1 rfl (qk [4, 5, 6, 7, 37, 900001, 900002] rfl ?_))
      rcases cond_some h with ⟨g36, h⟩ | ⟨g36, h⟩
      ·refine qT rfl g36 (rgd (by kernel_rfl) (sd 1 rfl (?_)))
       obtain ⟨e37, g38, h⟩ := ob_some h
       refine ed rfl (qI rfl (zpE zc53_o) g38 (sd 2 rfl (?_)))
       obtain ⟨e39, g40, h⟩ := ob_some h
       refine ed rfl (qI rfl (zpE zc53_o) g40 (sd 1 rfl (?_)))
       obtain ⟨v41, g42, h⟩ := ob_some h
       exact ed rfl (qC (qa rfl (erP eci64 eci64 _) (qa rfl (erP eci64 eci64 _) eran)) (impl_CompareRows_s g42) (sd 1 rfl (evdn (kJ3 h _ (okr rfl)))))
      ·exact qF rfl g36 (ls_skip (kJ3 h _ (okr rfl)))
    ·exact qF rfl g16 (ls_exit (kXB1 (Option.some.inj h) _ (okr rfl)))
   refine sp 4 rfl (?_)
   rcases cond_some h with ⟨g43, h⟩ | ⟨g43, h⟩
   ·exact qg 27 g43 rfl (sp 4 rfl (evn (kJ2 h _ (okr rfl))))
   ·exact qg 27 g43 rfl (sp 4 rfl (evn (kJ2 h _ (okr rfl))))
def impl_columnsFit_B1 (a0 : Int) (a1 : List Int) (rec : Int -> Option (Sum (Unit) (Bool))) (y1 : Int) : Option (Sum (Unit) (Bool)) := cond (decide (y1 < (List.length a1 : Int))) (obind (geti a1 y1) fun e7 => obind (impl_within e7 0 (IntKind.i64.wrap (a0 - 1))) fun v9 => cond (!v9) (some (.inr false)) (rec (IntKind.i64.wrap (y1 + 1)))) (some (.inl ()))
def impl_columnsFit (a0 : Int) (a1 : List Int) : Option (Bool) := cond (decide (5 < (List.length a1 : Int))) (some false) (obind (loopF (impl_columnsFit_B1 a0 a1) fz 0) fun o1 => (match o1 with
  | .inl _ => (some true)
  | .inr r => some r))
theorem impl_columnsFit_s {a0 : Int} {a1 : List Int} {r : Bool} (h : impl_columnsFit a0 a1 = some r) : SoundAt Tryz.prog 169 [nI a0, dL ci64 a1] (.bool r) := by
 unfold impl_columnsFit at h
 refine st lit169 rfl (rn 1 rfl (ls_seq_k fun K1 hK1 => rn 1 rfl ?_))
 rcases cond_some h with ⟨g2, h⟩ | ⟨g2, h⟩
 ·exact qT rfl g2 (rn 1 rfl (ls_ret ((by cases h; exact ⟨.inl rfl, rfl⟩))))
 ·refine qF rfl g2 (ls_skip (hK1 _ (ls_seq_k fun K3 hK3 => rn 1 rfl ?_)))
  obtain ⟨o1, hl, hr1⟩ := ob_some h
  have kXB1 : (.inl ()) = o1 -> Jn K3 [] := by
   intro h σ' hk
   subst h
   replace h := hr1
   try dsimp only at h
   exact hK3 _ (lh hk rfl (rn 1 rfl (ls_ret ((by cases h; exact ⟨.inl rfl, rfl⟩)))))
  refine ls_rec (fun (y1 : Int) => [(0, nI a0), (10, dL ci64 a1), (11, nI (List.length a1 : Int)), (12, nI y1)]) _ _ _ _ hl (okr rfl) (fun _ => rfl) ?_
  rintro m y1 N h hN
  unfold impl_columnsFit_B1 at h
  refine rn 1 rfl (ls_seq_k fun K4 hK4 => ?_)
  rcases cond_some h with ⟨g5, h⟩ | ⟨g5, h⟩
  ·refine qT rfl g5 (ls_skip (hK4 _ (ls_seq_k fun K6 hK6 => ls_blk (rs ?_))))
   obtain ⟨e7, g8, h⟩ := ob_some h
   refine qI rfl zci64 g8 (sp 2 rfl (evn (rs (sp 3 rfl (?_)))))
   obtain ⟨v9, g10, h⟩ := ob_some h
   refine qC (qs rfl (qs rfl (qs rfl eran))) (impl_within_s g10) (sp 1 rfl (evn ?_))
   rcases cond_some h with ⟨g11, h⟩ | ⟨g11, h⟩
   ·exact qT rfl g11 (rn 1 rfl (ls_ret ((by cases h; cases hr1; exact ⟨.inl rfl, rfl⟩))))
   ·exact qF rfl g11 (ls_skip (hK6 _ (rg (sp 2 rfl (evn (hN _ _ h (okr rfl)))))))
  ·exact qF rfl g5 (ls_exit (kXB1 (Option.some.inj h) _ trivial))
def impl_pick_B1 (a0 : List Int) (a1 : List Int) (rec : ((List Int) × Int) -> Option ((List Int))) (s : (List Int) × Int) : Option ((List Int)) := match s with
  | (y1, y2) => cond (decide (y2 < (List.length a1 : Int))) (obind (geti a1 y2) fun e6 => obind (geti a0 e6) fun e8 => chk (List.length y1 + List.length [e8] <= lim) (rec ((y1 ++ [e8]), (IntKind.i64.wrap (y2 + 1))))) (some y1)
def impl_pick (a0 : List Int) (a1 : List Int) : Option ((List Int)) := obind (loopF (impl_pick_B1 a0 a1) fz (([] : List Int), 0)) fun z2 => some z2
theorem impl_pick_s {a0 : List Int} {a1 : List Int} {r : (List Int)} (h : impl_pick a0 a1 = some r) : SoundAt Tryz.prog 171 [dL ci64 a0, dL ci64 a1] (oL 3 ci64 r) := by
 unfold impl_pick at h
 refine st lit171 rfl (rn 1 rfl (rs (qBs ci64 [] rfl rfl rfl zci64 (sp 1 rfl (evn (ls_seq_k fun K1 hK1 => rn 1 rfl ?_))))))
 obtain ⟨o1, hl, hr1⟩ := ob_some h
 have kXB1 : ∀ {z2 : List Int}, z2 = o1 -> Jn K1 [(5, oL 3 ci64 z2)] := by
  intro z2 h σ' hk
  subst h
  replace h := hr1
  try dsimp only at h
  exact hK1 _ (lh hk rfl (rn 1 rfl (ls_ret ((by cases h; exact ⟨.inl rfl, rfl⟩)))))
 refine ls_rec (fun (s : (List Int) × Int) => match s with | (y1, y2) => [(0, dL ci64 a0), (5, oL 3 ci64 y1), (9, dL ci64 a1), (10, nI (List.length a1 : Int)), (11, nI y2)]) _ _ _ _ hl (okr rfl) (fun _ => rfl) ?_
 rintro m ⟨y1, y2⟩ N h hN
 unfold impl_pick_B1 at h
 dsimp only at h
 refine rn 1 rfl (ls_seq_k fun K3 hK3 => ?_)
 rcases cond_some h with ⟨g4, h⟩ | ⟨g4, h⟩
 ·refine qT rfl g4 (ls_skip (hK3 _ (ls_seq_k fun K5 hK5 => ls_blk (rs ?_))))
  obtain ⟨e6, g7, h⟩ := ob_some h
  refine qI rfl zci64 g7 (sp 2 rfl (evn (rg (sp 3 rfl (?_)))))
  obtain ⟨e8, g9, h⟩ := ob_some h
  refine qI rfl zci64 g9 (sp 1 rfl (qBs ci64 [e8] rfl rfl rfl zci64 (?_)))
  obtain ⟨g10, h⟩ := chk_some h
  exact qA ci64 y1 [e8] rfl rfl (flat_len zci64 [e8]) rfl g10 (sp 1 rfl (evn (hK5 _ (rg (sp 2 rfl (evn (hN _ _ h (okr rfl))))))))
 ·exact qF rfl g4 (ls_exit (kXB1 (Option.some.inj h) _ (okr rfl)))
def impl_AtomBindings_J3 (rec : ((List Int) × Bool × Int) -> Option ((List Int) × Bool)) (e16 : List Int) (y9 : List Int) (y11 : Int) (e25 : Int) (x30 : Bool) : Option ((List Int) × Bool) := obind (geti e16 y11) fun e31 => obind (geti y9 e25) fun e33 => rec ((seti y9 e25 e31), x30, (IntKind.i64.wrap (y11 + 1)))
def impl_AtomBindings_B2 (a1 : Y147) (e16 : List Int) (rec : ((List Int) × Bool × Int) -> Option ((List Int) × Bool)) (s : (List Int) × Bool × Int) : Option ((List Int) × Bool) := match s with
  | (y9, y10, y11) => cond (decide (y11 < (List.length a1.2 : Int))) (obind (geti a1.2 y11) fun e25 => obind (impl_indexOf a1.2 e25) fun v27 => cond y10 (obind (geti e16 v27) fun e36 => obind (geti e16 y11) fun e38 => impl_AtomBindings_J3 rec e16 y9 y11 e25 (e36 == e38)) (impl_AtomBindings_J3 rec e16 y9 y11 e25 false)) (some (y9, y10))
def impl_AtomBindings_J4 (rec : ((List (List Int)) × Int) -> Option ((List (List Int)))) (y5 : Int) (x40 : List (List Int)) : Option ((List (List Int))) := rec (x40, (IntKind.i64.wrap (y5 + 1)))
def impl_AtomBindings_B1 (a1 : Y147) (v1 : (List Int)) (v3 : Y42 × Bool) (rec : ((List (List Int)) × Int) -> Option ((List (List Int)))) (s : (List (List Int)) × Int) : Option ((List (List Int))) := match s with
  | (y4, y5) => cond (decide (y5 < (List.length v3.1.2 : Int))) (obind (geti v3.1.2 y5) fun e16 => chk ((0 : Int) <= 5 ∧ Int.toNat 5 <= lim) (obind (loopF (impl_AtomBindings_B2 a1 e16) fz ((List.replicate (Int.toNat 5) (0 : Int)), true, 0)) fun o2 => (match o2 with
  | (z20, z21) => (cond z21 (obind (impl_pick z20 v1) fun v42 => chk (List.length y4 + List.length [v42] <= lim) (impl_AtomBindings_J4 rec y5 (y4 ++ [v42]))) (impl_AtomBindings_J4 rec y5 y4))))) (some y4)
def impl_AtomBindings (a0 : List Y119) (a1 : Y147) : Option (Y42) := obind (impl_AtomVariables a1) fun v1 => obind (impl_LookupRelation a0 a1.1) fun v3 => cond (!v3.2) (some ((List.length v1 : Int), [])) (cond (v3.1.1 != (List.length a1.2 : Int)) (some ((List.length v1 : Int), [])) (obind (impl_columnsFit 5 a1.2) fun v8 => cond (!v8) (some ((List.length v1 : Int), [])) (obind (loopF (impl_AtomBindings_B1 a1 v1 v3) fz (([] : List (List Int)), 0)) fun z12 => obind (impl_sorted z12) fun v45 => some ((List.length v1 : Int), v45))))
theorem impl_AtomBindings_s {a0 : List Y119} {a1 : Y147} {r : Y42} (h : impl_AtomBindings a0 a1 = some r) : SoundAt Tryz.prog 191 [.agg [dL c120_dd a0], .agg (c148_d a1)] (.agg (c43_oo r)) := by
 unfold impl_AtomBindings at h
 refine st lit191 rfl (rn 1 rfl (rs (sp 1 rfl (?_))))
 obtain ⟨v1, g2, h⟩ := ob_some h
 refine qC (qa rfl (erg (erc rfl (erc (erD eci64 _) rfl))) eran) (impl_AtomVariables_s g2) (sp 1 rfl (evn (rn 1 rfl (rs (sp 3 rfl (?_))))))
 obtain ⟨v3, g4, h⟩ := ob_some h
 refine qC (qa rfl (erg (erc (erD ec120_dd _) rfl)) (qs rfl eran)) (impl_LookupRelation_s g4) (sp 6 rfl (evn (ls_seq_k fun K5 hK5 => rs (sp 3 rfl (?_)))))
 rcases cond_some h with ⟨g6, h⟩ | ⟨g6, h⟩
 ·exact qg 31 g6 rfl (sp 13 rfl (evn (qk [3, 4, 5, 6, 7, 44] rfl (qT rfl rfl (rn 1 rfl (ls_ret ((by cases h; exact ⟨.inl rfl, rfl⟩))))))))
 ·refine qg 31 g6 rfl (sp 8 rfl (?_))
  rcases cond_some h with ⟨g7, h⟩ | ⟨g7, h⟩
  ·exact qg 39 g7 rfl (sp 5 rfl (evn (qT rfl rfl (rn 1 rfl (ls_ret ((by cases h; exact ⟨.inl rfl, rfl⟩)))))))
  ·refine qg 39 g7 rfl (sp 2 rfl (?_))
   obtain ⟨v8, g9, h⟩ := ob_some h
   refine oGR rfl rfl (qC (qs rfl (qa rfl (erD eci64 _) eran)) (impl_columnsFit_s g9) (sp 2 rfl (evn ?_)))
   rcases cond_some h with ⟨g10, h⟩ | ⟨g10, h⟩
   ·exact qT rfl g10 (rn 1 rfl (ls_ret ((by cases h; exact ⟨.inl rfl, rfl⟩))))
   ·refine qF rfl g10 (ls_skip (hK5 _ (qk [3, 4, 5, 6, 7] rfl (rn 1 rfl (ls_seq_k fun K11 hK11 => rn 1 rfl ?_)))))
    obtain ⟨o1, hl, hr1⟩ := ob_some h
    have kXB1 : ∀ {z12 : List (List Int)}, z12 = o1 -> Jn K11 [(4, .box [nI 0, oL 53 c53_o []]), (6, .box [nI (List.length v1 : Int), oL 53 c53_o []]), (9, oL 53 c53_o z12)] := by
     intro z12 h σ' hk
     subst h
     replace h := hr1
     try dsimp only at h
     refine hK11 _ (lh hk rfl (rs (sp 1 rfl (?_))))
     obtain ⟨v45, g46, h⟩ := ob_some h
     exact qC (qa rfl (erD ec53_o _) eran) (impl_sorted_s g46) (sp 2 rfl (evn (rn 1 rfl (ls_ret ((by cases h; exact ⟨.inl rfl, rfl⟩))))))
    refine ls_rec (fun (s : (List (List Int)) × Int) => match s with | (y4, y5) => [(3, .box [.str a1.1, dL ci64 a1.2]), (4, .box [nI 0, oL 53 c53_o []]), (5, oL 3 ci64 v1), (6, .box [nI (List.length v1 : Int), oL 53 c53_o []]), (9, oL 53 c53_o y4), (47, dL c53_o v3.1.2), (48, nI (List.length v3.1.2 : Int)), (49, nI y5)]) _ _ _ _ hl (okr rfl) (fun _ => rfl) ?_
    rintro m ⟨y4, y5⟩ N h hN
    unfold impl_AtomBindings_B1 at h
    dsimp only at h
    refine rn 1 rfl (ls_seq_k fun K13 hK13 => ?_)
    rcases cond_some h with ⟨g14, h⟩ | ⟨g14, h⟩
    ·refine qT rfl g14 (ls_skip (hK13 _ (ls_seq_k fun K15 hK15 => ls_blk (rs ?_))))
     obtain ⟨e16, g17, h⟩ := ob_some h
     refine qI rfl zc53_o g17 (sp 2 rfl (evn (rs ?_)))
     obtain ⟨g18, h⟩ := chk_some h
     refine qMu ci64 (0 : Int) rfl rfl rfl rfl g18 rfl (qAu rfl rfl rfl rfl (evn (rn 1 rfl (ls_seq_k fun K19 hK19 => rn 1 rfl ?_))))
     obtain ⟨o2, hl, hr2⟩ := ob_some h
     have kXB2 : ∀ {z20 : List Int} {z21 : Bool}, (z20, z21) = o2 -> Jn K19 [(3, .box [.str a1.1, dL ci64 a1.2]), (4, .box [nI 0, oL 53 c53_o []]), (5, oL 3 ci64 v1), (6, .box [nI (List.length v1 : Int), oL 53 c53_o []]), (9, oL 53 c53_o y4), (12, wL 3 ci64 z20), (13, .bool z21), (47, dL c53_o v3.1.2), (48, nI (List.length v3.1.2 : Int)), (49, nI y5)] := by
      intro z20 z21 h σ' hk
      subst h
      replace h := hr2
      try dsimp only at h
      refine hK19 _ (lh hk rfl (rn 1 rfl ?_))
      have kJ4 : ∀ {x40 : List (List Int)}, impl_AtomBindings_J4 (loopF (impl_AtomBindings_B1 a1 v1 v3) m) y5 x40 = some o1 -> Jn K15 [(3, .box [.str a1.1, dL ci64 a1.2]), (4, .box [nI 0, oL 53 c53_o []]), (5, oL 3 ci64 v1), (6, .box [nI (List.length v1 : Int), oL 53 c53_o []]), (9, oL 53 c53_o x40), (47, dL c53_o v3.1.2), (48, nI (List.length v3.1.2 : Int)), (49, nI y5)] := by
       intro x40 h σ' hk
       unfold impl_AtomBindings_J4 at h
       exact hK15 _ (lh hk rfl (rg (sp 2 rfl (evn (hN _ _ h (okr rfl))))))
      rcases cond_some h with ⟨g41, h⟩ | ⟨g41, h⟩
      ·refine qT rfl g41 (rg (sp 1 rfl (qTu rfl rfl rfl (sp 1 rfl (?_)))))
       obtain ⟨v42, g43, h⟩ := ob_some h
       refine qC (qa rfl (erO eci64 _) (qa rfl (erD eci64 _) eran)) (impl_pick_s g43) (qBs c53_o [v42] rfl rfl rfl zc53_o (?_))
       obtain ⟨g44, h⟩ := chk_some h
       exact qA c53_o y4 [v42] rfl rfl (flat_len zc53_o [v42]) rfl g44 (sp 1 rfl (evn (kJ4 h _ (okr rfl))))
      ·exact qF rfl g41 (ls_skip (kJ4 h _ (okr rfl)))
     refine ls_rec (fun (s : (List Int) × Bool × Int) => match s with | (y9, y10, y11) => [(3, .box [.str a1.1, dL ci64 a1.2]), (4, .box [nI 0, oL 53 c53_o []]), (5, oL 3 ci64 v1), (6, .box [nI (List.length v1 : Int), oL 53 c53_o []]), (9, oL 53 c53_o y4), (11, dL ci64 e16), (12, wL 3 ci64 y9), (13, .bool y10), (47, dL c53_o v3.1.2), (48, nI (List.length v3.1.2 : Int)), (49, nI y5), (55, dL ci64 a1.2), (56, nI (List.length a1.2 : Int)), (57, nI y11)]) _ _ _ _ hl (okr rfl) (fun _ => rfl) ?_
     rintro m ⟨y9, y10, y11⟩ N h hN
     unfold impl_AtomBindings_B2 at h
     dsimp only at h
     refine rn 1 rfl (ls_seq_k fun K22 hK22 => ?_)
     rcases cond_some h with ⟨g23, h⟩ | ⟨g23, h⟩
     ·refine qT rfl g23 (ls_skip (hK22 _ (ls_seq_k fun K24 hK24 => ls_blk (rs (sp 1 rfl (?_))))))
      obtain ⟨e25, g26, h⟩ := ob_some h
      refine qI rfl zci64 g26 (sp 3 rfl (evn (rs (sp 3 rfl (?_)))))
      obtain ⟨v27, g28, h⟩ := ob_some h
      refine qC (qa rfl (erD eci64 _) (qs rfl eran)) (impl_indexOf_s g28) (sp 1 rfl (evn (rdk (by kernel_rfl) fun K29 hK29 => ?_)))
      have kJ3 : ∀ {x30 : Bool}, impl_AtomBindings_J3 (loopF (impl_AtomBindings_B2 a1 e16) m) e16 y9 y11 e25 x30 = some o2 -> Jn K29 [(3, .box [.str a1.1, dL ci64 a1.2]), (4, .box [nI 0, oL 53 c53_o []]), (5, oL 3 ci64 v1), (6, .box [nI (List.length v1 : Int), oL 53 c53_o []]), (9, oL 53 c53_o y4), (11, dL ci64 e16), (12, wL 3 ci64 y9), (13, .bool x30), (14, nI y11), (15, nI e25), (47, dL c53_o v3.1.2), (48, nI (List.length v3.1.2 : Int)), (49, nI y5), (55, dL ci64 a1.2), (56, nI (List.length a1.2 : Int)), (57, nI y11)] := by
       intro x30 h σ' hk
       unfold impl_AtomBindings_J3 at h
       refine hK29 _ (lh hk rfl (rg (sp 4 rfl (?_))))
       obtain ⟨e31, g32, h⟩ := ob_some h
       refine qI rfl zci64 g32 (sp 1 rfl (?_))
       obtain ⟨e33, g34, h⟩ := ob_some h
       exact qIu rfl ⟨(geti_some g34).1, (geti_some g34).2.1⟩ (qSu e31 rfl rfl zci64 ⟨(geti_some g34).1, (geti_some g34).2.1⟩ rfl rfl rfl rfl rfl rfl (evn (hK24 _ (rg (sp 2 rfl (evn (hN _ _ h (okr rfl))))))))
      refine sd 2 rfl (?_)
      rcases cond_some h with ⟨g35, h⟩ | ⟨g35, h⟩
      ·refine qgd 67 g35 rfl (sd 2 rfl (?_))
       obtain ⟨e36, g37, h⟩ := ob_some h
       refine ed rfl (oGR rfl rfl (qI rfl zci64 g37 (sd 3 rfl (?_))))
       obtain ⟨e38, g39, h⟩ := ob_some h
       exact ed rfl (oGR rfl rfl (qI rfl zci64 g39 (sd 4 rfl (evdn (kJ3 h _ (okr rfl))))))
      ·exact qgd 67 g35 rfl (sd 11 rfl (evdn (kJ3 h _ (okr rfl))))
     ·exact qF rfl g23 (ls_exit (kXB2 (Option.some.inj h) _ (okr rfl)))
    ·exact qF rfl g14 (ls_exit (kXB1 (Option.some.inj h) _ (okr rfl)))
abbrev Y187 := (List Int) × Y42
def c188_ddd (x : Y187) : List V := [dL ci64 x.1, nI x.2.1, dL c53_d x.2.2]
theorem zc188_ddd (x : Y187) : (c188_ddd x).length = 3 := rfl
theorem ec188_ddd (x : Y187) : erL (c188_ddd x) = c188_ddd x := (erc (erD eci64 _) (erc rfl (erc (erD ec53_d _) rfl)))
def c188_ooo (x : Y187) : List V := [oL 3 ci64 x.1, nI x.2.1, oL 53 c53_o x.2.2]
theorem zc188_ooo (x : Y187) : (c188_ooo x).length = 3 := rfl
theorem ec188_ooo (x : Y187) : erL (c188_ooo x) = c188_ddd x := (erc (erO eci64 _) (erc rfl (erc (erO ec53_o _) rfl)))
def impl_AtomRelation (a0 : List Y119) (a1 : Y147) : Option (Y187) := obind (impl_AtomVariables a1) fun v1 => obind (impl_AtomBindings a0 a1) fun v3 => some (v1, v3)
theorem impl_AtomRelation_s {a0 : List Y119} {a1 : Y147} {r : Y187} (h : impl_AtomRelation a0 a1 = some r) : SoundAt Tryz.prog 165 [.agg [dL c120_dd a0], .agg (c148_d a1)] (.agg (c188_ooo r)) := by
 unfold impl_AtomRelation at h
 refine st lit165 rfl (rn 1 rfl (rd (by kernel_rfl) (sd 1 rfl (?_))))
 obtain ⟨v1, g2, h⟩ := ob_some h
 refine ed rfl (qC (qa rfl (erg (erc rfl (erc (erD eci64 _) rfl))) eran) (impl_AtomVariables_s g2) (sd 2 rfl (?_)))
 obtain ⟨v3, g4, h⟩ := ob_some h
 exact ed rfl (qC (qa rfl (erg (erc (erD ec120_dd _) rfl)) (qa rfl (erg (erc rfl (erc (erD eci64 _) rfl))) eran)) (impl_AtomBindings_s g4) (sd 2 rfl (evdn (ls_ret ((by cases h; exact ⟨.inl rfl, rfl⟩))))))
def impl_unite_B2 (y2 : List Int) (e8 : Int) (rec : Int -> Option (Int)) (y5 : Int) : Option (Int) := cond (decide (y5 < (List.length y2 : Int))) (obind (geti y2 y5) fun e14 => cond (decide (e14 < e8)) (rec (IntKind.i64.wrap (y5 + 1))) (some y5)) (some y5)
def impl_unite_J4 (rec : ((List Int) × Int) -> Option ((List Int))) (y3 : Int) (x19 : List Int) : Option ((List Int)) := rec (x19, (IntKind.i64.wrap (y3 + 1)))
def impl_unite_J3 (rec : ((List Int) × Int) -> Option ((List Int))) (y2 : List Int) (y3 : Int) (e8 : Int) (z11 : Int) (x18 : Bool) : Option ((List Int)) := cond x18 (chk ((0 : Int) <= 0 ∧ 0 <= z11 ∧ z11 <= (List.length y2 : Int)) (obind (impl_copyInts (subl y2 0 z11)) fun v22 => chk (List.length v22 + List.length [e8] <= lim) (chk ((0 : Int) <= z11 ∧ z11 <= (List.length y2 : Int) ∧ (List.length y2 : Int) <= (List.length y2 : Int)) (chk (List.length (v22 ++ [e8]) + List.length (subl y2 z11 (List.length y2 : Int)) <= lim) (impl_unite_J4 rec y3 ((v22 ++ [e8]) ++ (subl y2 z11 (List.length y2 : Int)))))))) (impl_unite_J4 rec y3 y2)
def impl_unite_B1 (a1 : List Int) (rec : ((List Int) × Int) -> Option ((List Int))) (s : (List Int) × Int) : Option ((List Int)) := match s with
  | (y2, y3) => cond (decide (y3 < (List.length a1 : Int))) (obind (geti a1 y3) fun e8 => obind (loopF (impl_unite_B2 y2 e8) fz 0) fun z11 => cond (z11 == (List.length y2 : Int)) (impl_unite_J3 rec y2 y3 e8 z11 true) (obind (geti y2 z11) fun e28 => impl_unite_J3 rec y2 y3 e8 z11 (e28 != e8))) (some y2)
def impl_unite (a0 : List Int) (a1 : List Int) : Option ((List Int)) := obind (impl_copyInts a0) fun v1 => obind (loopF (impl_unite_B1 a1) fz (v1, 0)) fun z4 => some z4
theorem impl_unite_s {a0 : List Int} {a1 : List Int} {r : (List Int)} (h : impl_unite a0 a1 = some r) : SoundAt Tryz.prog 166 [dL ci64 a0, dL ci64 a1] (oL 3 ci64 r) := by
 unfold impl_unite at h
 refine st lit166 rfl (rn 1 rfl (rs (sp 1 rfl (?_))))
 obtain ⟨v1, g2, h⟩ := ob_some h
 refine qC (qa rfl (erD eci64 _) eran) (impl_copyInts_s g2) (sp 1 rfl (evn (ls_seq_k fun K3 hK3 => rn 1 rfl ?_)))
 obtain ⟨o1, hl, hr1⟩ := ob_some h
 have kXB1 : ∀ {z4 : List Int}, z4 = o1 -> Jn K3 [(5, oL 3 ci64 z4)] := by
  intro z4 h σ' hk
  subst h
  replace h := hr1
  try dsimp only at h
  exact hK3 _ (lh hk rfl (rn 1 rfl (ls_ret ((by cases h; exact ⟨.inl rfl, rfl⟩)))))
 refine ls_rec (fun (s : (List Int) × Int) => match s with | (y2, y3) => [(5, oL 3 ci64 y2), (11, dL ci64 a1), (12, nI (List.length a1 : Int)), (13, nI y3)]) _ _ _ _ hl (okr rfl) (fun _ => rfl) ?_
 rintro m ⟨y2, y3⟩ N h hN
 unfold impl_unite_B1 at h
 dsimp only at h
 refine rn 1 rfl (ls_seq_k fun K5 hK5 => ?_)
 rcases cond_some h with ⟨g6, h⟩ | ⟨g6, h⟩
 ·refine qT rfl g6 (ls_skip (hK5 _ (ls_seq_k fun K7 hK7 => ls_blk (rs ?_))))
  obtain ⟨e8, g9, h⟩ := ob_some h
  refine qI rfl zci64 g9 (sp 2 rfl (evn (rn 1 rfl (ls_seq_k fun K10 hK10 => ?_))))
  obtain ⟨o2, hl, hr2⟩ := ob_some h
  have kXB2 : ∀ {z11 : Int}, z11 = o2 -> Jn K10 [(5, oL 3 ci64 y2), (7, nI e8), (8, nI z11), (11, dL ci64 a1), (12, nI (List.length a1 : Int)), (13, nI y3)] := by
   intro z11 h σ' hk
   subst h
   replace h := hr2
   try dsimp only at h
   refine hK10 _ (lh hk rfl (rk fun K17 hK17 => ?_))
   have kJ3 : ∀ {x18 : Bool}, impl_unite_J3 (loopF (impl_unite_B1 a1) m) y2 y3 e8 z11 x18 = some o1 -> Jn K17 [(5, oL 3 ci64 y2), (7, nI e8), (8, nI z11), (11, dL ci64 a1), (12, nI (List.length a1 : Int)), (13, nI y3), (42, .bool x18)] := by
    intro x18 h σ' hk
    unfold impl_unite_J3 at h
    refine hK17 _ (lh hk rfl ?_)
    have kJ4 : ∀ {x19 : List Int}, impl_unite_J4 (loopF (impl_unite_B1 a1) m) y3 x19 = some o1 -> Jn K7 [(5, oL 3 ci64 x19), (11, dL ci64 a1), (12, nI (List.length a1 : Int)), (13, nI y3)] := by
     intro x19 h σ' hk
     unfold impl_unite_J4 at h
     exact hK7 _ (lh hk rfl (rg (sp 2 rfl (evn (hN _ _ h (okr rfl))))))
    rcases cond_some h with ⟨g20, h⟩ | ⟨g20, h⟩
    ·refine qT rfl g20 (rgd (by kernel_rfl) (sd 2 rfl (?_)))
     obtain ⟨g21, h⟩ := chk_some h
     refine ed rfl (qSl rfl zci64 g21 (?_))
     obtain ⟨v22, g23, h⟩ := ob_some h
     refine ed rfl (qC (qa rfl (erD eci64 _) eran) (impl_copyInts_s g23) (sd 1 rfl (ed rfl (qBs ci64 [e8] rfl rfl rfl zci64 (?_)))))
     obtain ⟨g24, h⟩ := chk_some h
     refine ed rfl (qA ci64 v22 [e8] rfl rfl (flat_len zci64 [e8]) rfl g24 (sd 2 rfl (?_)))
     obtain ⟨g25, h⟩ := chk_some h
     refine ed rfl (qSl rfl zci64 g25 (?_))
     obtain ⟨g26, h⟩ := chk_some h
     exact ed rfl (qA ci64 (v22 ++ [e8]) (subl y2 z11 (List.length y2 : Int)) rfl rfl (flat_len zci64 (subl y2 z11 (List.length y2 : Int))) (map_dg (fun _ => rfl) _) g26 (sd 1 rfl (evdn (kJ4 h _ (okr rfl)))))
    ·exact qF rfl g20 (ls_skip (kJ4 h _ (okr rfl)))
   refine sp 5 rfl (?_)
   rcases cond_some h with ⟨g27, h⟩ | ⟨g27, h⟩
   ·exact qg 35 g27 rfl (sp 7 rfl (evn (kJ3 h _ (okr rfl))))
   ·refine qg 35 g27 rfl (sp 2 rfl (?_))
    obtain ⟨e28, g29, h⟩ := ob_some h
    exact oGR rfl rfl (qI rfl zci64 g29 (sp 4 rfl (evn (kJ3 h _ (okr rfl)))))
  refine ls_rec (fun (y5 : Int) => [(5, oL 3 ci64 y2), (7, nI e8), (8, nI y5), (11, dL ci64 a1), (12, nI (List.length a1 : Int)), (13, nI y3)]) _ _ _ _ hl (okr rfl) (fun _ => rfl) ?_
  rintro m y5 N h hN
  unfold impl_unite_B2 at h
  refine ls_seq_k fun K12 hK12 => rs (sp 5 rfl (?_))
  rcases cond_some h with ⟨g13, h⟩ | ⟨g13, h⟩
  ·refine qg 21 g13 rfl (sp 2 rfl (?_))
   obtain ⟨e14, g15, h⟩ := ob_some h
   refine oGR rfl rfl (qI rfl zci64 g15 (sp 4 rfl (evn ?_)))
   rcases cond_some h with ⟨g16, h⟩ | ⟨g16, h⟩
   ·exact qT rfl g16 (ls_skip (hK12 _ (ls_blk (rg (sp 3 rfl (evn (hN _ _ h (okr rfl))))))))
   ·exact qF rfl g16 (ls_exit (kXB2 (Option.some.inj h) _ (okr rfl)))
  ·exact qg 21 g13 rfl (sp 7 rfl (evn (qF rfl rfl (ls_exit (kXB2 (Option.some.inj h) _ (okr rfl))))))
 ·exact qF rfl g6 (ls_exit (kXB1 (Option.some.inj h) _ (okr rfl)))
def impl_glue_J3 (rec : ((List Int) × Int) -> Option (Sum ((List Int)) ((List Int) × Bool))) (y2 : Int) (x15 : List Int) : Option (Sum ((List Int)) ((List Int) × Bool)) := rec (x15, (IntKind.i64.wrap (y2 + 1)))
def impl_glue_J2 (rec : ((List Int) × Int) -> Option (Sum ((List Int)) ((List Int) × Bool))) (a2 : List Int) (a4 : List Int) (y1 : List Int) (y2 : Int) (v8 : Int) (v10 : Int) (x13 : Bool) : Option (Sum ((List Int)) ((List Int) × Bool)) := cond x13 (some (.inr (([] : List Int), false))) (cond (decide (0 <= v8)) (obind (geti a2 v8) fun e17 => chk (List.length y1 + List.length [e17] <= lim) (impl_glue_J3 rec y2 (y1 ++ [e17]))) (obind (geti a4 v10) fun e20 => chk (List.length y1 + List.length [e20] <= lim) (impl_glue_J3 rec y2 (y1 ++ [e20]))))
def impl_glue_B1 (a0 : List Int) (a1 : List Int) (a2 : List Int) (a3 : List Int) (a4 : List Int) (rec : ((List Int) × Int) -> Option (Sum ((List Int)) ((List Int) × Bool))) (s : (List Int) × Int) : Option (Sum ((List Int)) ((List Int) × Bool)) := match s with
  | (y1, y2) => cond (decide (y2 < (List.length a0 : Int))) (obind (geti a0 y2) fun e6 => obind (impl_indexOf a1 e6) fun v8 => obind (impl_indexOf a3 e6) fun v10 => cond (decide (0 <= v8)) (cond (decide (0 <= v10)) (obind (geti a2 v8) fun e25 => obind (geti a4 v10) fun e27 => impl_glue_J2 rec a2 a4 y1 y2 v8 v10 (e25 != e27)) (impl_glue_J2 rec a2 a4 y1 y2 v8 v10 false)) (impl_glue_J2 rec a2 a4 y1 y2 v8 v10 false)) (some (.inl y1))
def impl_glue (a0 : List Int) (a1 : List Int) (a2 : List Int) (a3 : List Int) (a4 : List Int) : Option ((List Int) × Bool) := obind (loopF (impl_glue_B1 a0 a1 a2 a3 a4) fz (([] : List Int), 0)) fun o1 => (match o1 with
  | .inl z2 => (some (z2, true))
  | .inr r => some r)
theorem impl_glue_s {a0 : List Int} {a1 : List Int} {a2 : List Int} {a3 : List Int} {a4 : List Int} {r : (List Int) × Bool} (h : impl_glue a0 a1 a2 a3 a4 = some r) : SoundAt Tryz.prog 167 [dL ci64 a0, dL ci64 a1, dL ci64 a2, dL ci64 a3, dL ci64 a4] (.tup [oL 3 ci64 r.1, .bool r.2]) := by
 unfold impl_glue at h
 refine st lit167 rfl (rn 1 rfl (rs (qBs ci64 [] rfl rfl rfl zci64 (sp 1 rfl (evn (ls_seq_k fun K1 hK1 => rn 1 rfl ?_))))))
 obtain ⟨o1, hl, hr1⟩ := ob_some h
 have kXB1 : ∀ {z2 : List Int}, (.inl z2) = o1 -> Jn K1 [(12, oL 3 ci64 z2)] := by
  intro z2 h σ' hk
  subst h
  replace h := hr1
  try dsimp only at h
  exact hK1 _ (lh hk rfl (rn 1 rfl (ls_ret ((by cases h; exact ⟨.inl rfl, rfl⟩)))))
 refine ls_rec (fun (s : (List Int) × Int) => match s with | (y1, y2) => [(1, dL ci64 a1), (2, dL ci64 a2), (3, dL ci64 a3), (4, dL ci64 a4), (12, oL 3 ci64 y1), (18, dL ci64 a0), (19, nI (List.length a0 : Int)), (20, nI y2)]) _ _ _ _ hl (okr rfl) (fun _ => rfl) ?_
 rintro m ⟨y1, y2⟩ N h hN
 unfold impl_glue_B1 at h
 dsimp only at h
 refine rn 1 rfl (ls_seq_k fun K3 hK3 => ?_)
 rcases cond_some h with ⟨g4, h⟩ | ⟨g4, h⟩
 ·refine qT rfl g4 (ls_skip (hK3 _ (ls_seq_k fun K5 hK5 => ls_blk (rs ?_))))
  obtain ⟨e6, g7, h⟩ := ob_some h
  refine qI rfl zci64 g7 (sp 2 rfl (evn (rs (sp 2 rfl (?_)))))
  obtain ⟨v8, g9, h⟩ := ob_some h
  refine qC (qa rfl (erD eci64 _) (qs rfl eran)) (impl_indexOf_s g9) (sp 2 rfl (?_))
  obtain ⟨v10, g11, h⟩ := ob_some h
  refine qC (qa rfl (erD eci64 _) (qs rfl eran)) (impl_indexOf_s g11) (sp 2 rfl (evn (ls_blk (rdk (by kernel_rfl) fun K12 hK12 => ?_))))
  have kJ2 : ∀ {x13 : Bool}, impl_glue_J2 (loopF (impl_glue_B1 a0 a1 a2 a3 a4) m) a2 a4 y1 y2 v8 v10 x13 = some o1 -> Jn K12 [(1, dL ci64 a1), (2, dL ci64 a2), (3, dL ci64 a3), (4, dL ci64 a4), (12, oL 3 ci64 y1), (15, nI v8), (16, nI v10), (18, dL ci64 a0), (19, nI (List.length a0 : Int)), (20, nI y2), (37, .bool x13)] := by
   intro x13 h σ' hk
   unfold impl_glue_J2 at h
   refine hK12 _ (lh hk rfl ?_)
   rcases cond_some h with ⟨g14, h⟩ | ⟨g14, h⟩
   ·exact qT rfl g14 (rn 1 rfl (ls_ret ((by cases h; cases hr1; exact ⟨.inl rfl, rfl⟩))))
   ·refine qF rfl g14 (rn 1 rfl ?_)
    have kJ3 : ∀ {x15 : List Int}, impl_glue_J3 (loopF (impl_glue_B1 a0 a1 a2 a3 a4) m) y2 x15 = some o1 -> Jn K5 [(1, dL ci64 a1), (2, dL ci64 a2), (3, dL ci64 a3), (4, dL ci64 a4), (12, oL 3 ci64 x15), (18, dL ci64 a0), (19, nI (List.length a0 : Int)), (20, nI y2)] := by
     intro x15 h σ' hk
     unfold impl_glue_J3 at h
     exact hK5 _ (lh hk rfl (rg (sp 2 rfl (evn (hN _ _ h (okr rfl))))))
    rcases cond_some h with ⟨g16, h⟩ | ⟨g16, h⟩
    ·refine qT rfl g16 (rg (sp 3 rfl (?_)))
     obtain ⟨e17, g18, h⟩ := ob_some h
     refine qI rfl zci64 g18 (sp 1 rfl (qBs ci64 [e17] rfl rfl rfl zci64 (?_)))
     obtain ⟨g19, h⟩ := chk_some h
     exact qA ci64 y1 [e17] rfl rfl (flat_len zci64 [e17]) rfl g19 (sp 1 rfl (evn (kJ3 h _ (okr rfl))))
    ·refine qF rfl g16 (rg (sp 3 rfl (?_)))
     obtain ⟨e20, g21, h⟩ := ob_some h
     refine qI rfl zci64 g21 (sp 1 rfl (qBs ci64 [e20] rfl rfl rfl zci64 (?_)))
     obtain ⟨g22, h⟩ := chk_some h
     exact qA ci64 y1 [e20] rfl rfl (flat_len zci64 [e20]) rfl g22 (sp 1 rfl (evn (kJ3 h _ (okr rfl))))
  refine sd 3 rfl (?_)
  rcases cond_some h with ⟨g23, h⟩ | ⟨g23, h⟩
  ·refine qgd 40 g23 rfl (sd 4 rfl (?_))
   rcases cond_some h with ⟨g24, h⟩ | ⟨g24, h⟩
   ·refine qgd 44 g24 rfl (sd 2 rfl (?_))
    obtain ⟨e25, g26, h⟩ := ob_some h
    refine ed rfl (oGR rfl rfl (qI rfl zci64 g26 (sd 3 rfl (?_))))
    obtain ⟨e27, g28, h⟩ := ob_some h
    exact ed rfl (oGR rfl rfl (qI rfl zci64 g28 (sd 4 rfl (evdn (kJ2 h _ (okr rfl))))))
   ·exact qgd 44 g24 rfl (sd 11 rfl (evdn (kJ2 h _ (okr rfl))))
  ·exact qgd 40 g23 rfl (sd 15 rfl (evdn (kJ2 h _ (okr rfl))))
 ·exact qF rfl g4 (ls_exit (kXB1 (Option.some.inj h) _ (okr rfl)))
def impl_bindings_J4 (rec : ((List (List Int)) × Int) -> Option ((List (List Int)))) (y27 : Int) (x31 : List (List Int)) : Option ((List (List Int))) := rec (x31, (IntKind.i64.wrap (y27 + 1)))
def impl_bindings_B3 (y10 : List Int) (v12 : Y187) (v14 : (List Int)) (e21 : List Int) (rec : ((List (List Int)) × Int) -> Option ((List (List Int)))) (s : (List (List Int)) × Int) : Option ((List (List Int))) := match s with
  | (y26, y27) => cond (decide (y27 < (List.length v12.2.2 : Int))) (obind (geti v12.2.2 y27) fun e27 => obind (impl_glue v14 y10 e21 v12.1 e27) fun v29 => cond v29.2 (chk (List.length y26 + List.length [v29.1] <= lim) (impl_bindings_J4 rec y27 (y26 ++ [v29.1]))) (impl_bindings_J4 rec y27 y26)) (some y26)
def impl_bindings_B2 (y9 : List (List Int)) (y10 : List Int) (v12 : Y187) (v14 : (List Int)) (rec : ((List (List Int)) × Int) -> Option ((List (List Int)))) (s : (List (List Int)) × Int) : Option ((List (List Int))) := match s with
  | (y22, y23) => cond (decide (y23 < (List.length y9 : Int))) (obind (geti y9 y23) fun e21 => obind (loopF (impl_bindings_B3 y10 v12 v14 e21) fz (y22, 0)) fun z23 => rec (z23, (IntKind.i64.wrap (y23 + 1)))) (some y22)
def impl_bindings_B1 (a0 : List Y119) (a1 : Y54) (rec : ((List (List Int)) × (List Int) × Int) -> Option ((List (List Int)))) (s : (List (List Int)) × (List Int) × Int) : Option ((List (List Int))) := match s with
  | (y9, y10, y11) => cond (decide (y11 < (List.length a1.2.1 : Int))) (obind (geti a1.2.1 y11) fun e10 => obind (impl_AtomRelation a0 e10) fun v12 => obind (impl_unite y10 v12.1) fun v14 => obind (loopF (impl_bindings_B2 y9 y10 v12 v14) fz (([] : List (List Int)), 0)) fun z17 => rec (z17, v14, (IntKind.i64.wrap (y11 + 1)))) (some y9)
def impl_bindings (a0 : List Y119) (a1 : Y54) : Option (Y42 × Bool) := obind (impl_IsQueryFor a0 a1) fun v2 => cond (!v2) (some ((0, []), false)) (obind (loopF (impl_bindings_B1 a0 a1) fz (([[]]), ([] : List Int), 0)) fun z6 => obind (impl_sorted z6) fun v34 => obind (impl_IsValidRelation (a1.1, v34)) fun v37 => cond (!v37) (some ((0, []), false)) (some ((a1.1, v34), true)))
theorem impl_bindings_s {a0 : List Y119} {a1 : Y54} {r : Y42 × Bool} (h : impl_bindings a0 a1 = some r) : SoundAt Tryz.prog 117 [.agg [dL c120_dd a0], .agg (c55_ddd a1)] (.tup [.agg (c43_oo r.1), .bool r.2]) := by
 unfold impl_bindings at h
 refine st lit117 rfl (rn 1 rfl (ls_seq_k fun K1 hK1 => rs (sp 2 rfl (?_))))
 obtain ⟨v2, g3, h⟩ := ob_some h
 refine qC (qa rfl (erg (erc (erD ec120_dd _) rfl)) (qa rfl (erg (erc rfl (erc (erD ec148_d _) (erc (erD eci64 _) rfl)))) eran)) (impl_IsQueryFor_s g3) (sp 1 rfl (evn ?_))
 rcases cond_some h with ⟨g4, h⟩ | ⟨g4, h⟩
 ·exact qT rfl g4 (rn 1 rfl (ls_ret ((by cases h; exact ⟨.inl rfl, rfl⟩))))
 ·refine qF rfl g4 (ls_skip (hK1 _ (rs (qBs ci64 [] rfl rfl rfl zci64 (qBs c53_o [[]] rfl rfl rfl zc53_o (sp 1 rfl (evn (rs (qBs ci64 [] rfl rfl rfl zci64 (sp 1 rfl (evn (ls_seq_k fun K5 hK5 => rn 1 rfl ?_))))))))))))
  obtain ⟨o1, hl, hr1⟩ := ob_some h
  have kXB1 : ∀ {z6 : List (List Int)}, z6 = o1 -> Jn K5 [(3, .box [nI a1.1, dL c148_d a1.2.1, dL ci64 a1.2.2]), (4, .box [nI 0, oL 53 c53_o []]), (6, oL 53 c53_o z6)] := by
   intro z6 h σ' hk
   subst h
   replace h := hr1
   try dsimp only at h
   refine hK5 _ (lh hk rfl (rd (by kernel_rfl) (sd 3 rfl (?_))))
   obtain ⟨v34, g35, h⟩ := ob_some h
   refine ed rfl (qC (qa rfl (erD ec53_o _) eran) (impl_sorted_s g35) (sd 3 rfl (evdn (ls_seq_k fun K36 hK36 => rs (sp 1 rfl (?_))))))
   obtain ⟨v37, g38, h⟩ := ob_some h
   refine qC (qa rfl (erg (erc rfl (erc (erD ec53_o _) rfl))) eran) (impl_IsValidRelation_s g38) (sp 1 rfl (evn ?_))
   rcases cond_some h with ⟨g39, h⟩ | ⟨g39, h⟩
   ·exact qT rfl g39 (rn 1 rfl (ls_ret ((by cases h; exact ⟨.inl rfl, rfl⟩))))
   ·exact qF rfl g39 (ls_skip (hK36 _ (rn 1 rfl (ls_ret ((by cases h; exact ⟨.inl rfl, rfl⟩))))))
  refine ls_rec (fun (s : (List (List Int)) × (List Int) × Int) => match s with | (y9, y10, y11) => [(2, .box [dL c120_dd a0]), (3, .box [nI a1.1, dL c148_d a1.2.1, dL ci64 a1.2.2]), (4, .box [nI 0, oL 53 c53_o []]), (6, oL 53 c53_o y9), (7, oL 3 ci64 y10), (29, dL c148_d a1.2.1), (30, nI (List.length a1.2.1 : Int)), (31, nI y11)]) _ _ _ _ hl (okr rfl) (fun _ => rfl) ?_
  rintro m ⟨y9, y10, y11⟩ N h hN
  unfold impl_bindings_B1 at h
  dsimp only at h
  refine rn 1 rfl (ls_seq_k fun K7 hK7 => ?_)
  rcases cond_some h with ⟨g8, h⟩ | ⟨g8, h⟩
  ·refine qT rfl g8 (ls_skip (hK7 _ (ls_seq_k fun K9 hK9 => ls_blk (rs ?_))))
   obtain ⟨e10, g11, h⟩ := ob_some h
   refine qI rfl zc148_d g11 (sp 3 rfl (evn (rs (sp 2 rfl (?_)))))
   obtain ⟨v12, g13, h⟩ := ob_some h
   refine qC (qa rfl (erg (erc (erD ec120_dd _) rfl)) (qa rfl (erg (erc rfl (erc (erD eci64 _) rfl))) eran)) (impl_AtomRelation_s g13) (sp 2 rfl (evn (rn 1 rfl (rs (sp 3 rfl (?_))))))
   obtain ⟨v14, g15, h⟩ := ob_some h
   refine qC (qa rfl (erD eci64 _) (qa rfl (erD eci64 _) eran)) (impl_unite_s g15) (sp 1 rfl (evn (ls_seq_k fun K16 hK16 => rn 1 rfl (qk [2, 3, 4, 7, 10, 11, 12, 29, 30, 31, 42, 43, 44] rfl ?_))))
   obtain ⟨o2, hl, hr2⟩ := ob_some h
   have kXB2 : ∀ {z17 : List (List Int)}, z17 = o2 -> Jn K16 [(2, .box [dL c120_dd a0]), (3, .box [nI a1.1, dL c148_d a1.2.1, dL ci64 a1.2.2]), (4, .box [nI 0, oL 53 c53_o []]), (11, oL 53 c53_o z17), (12, oL 3 ci64 v14), (29, dL c148_d a1.2.1), (30, nI (List.length a1.2.1 : Int)), (31, nI y11)] := by
    intro z17 h σ' hk
    subst h
    replace h := hr2
    try dsimp only at h
    exact hK16 _ (lh hk rfl (rn 1 rfl (rg (sp 2 rfl (evn (hK9 _ (rg (sp 2 rfl (evn (hN _ _ h (okr rfl)))))))))))
   refine ls_rec (fun (s : (List (List Int)) × Int) => match s with | (y22, y23) => [(2, .box [dL c120_dd a0]), (3, .box [nI a1.1, dL c148_d a1.2.1, dL ci64 a1.2.2]), (4, .box [nI 0, oL 53 c53_o []]), (7, oL 3 ci64 y10), (10, .box [oL 3 ci64 v12.1, nI v12.2.1, oL 53 c53_o v12.2.2]), (11, oL 53 c53_o y22), (12, oL 3 ci64 v14), (29, dL c148_d a1.2.1), (30, nI (List.length a1.2.1 : Int)), (31, nI y11), (42, dL c53_o y9), (43, nI (List.length y9 : Int)), (44, nI y23)]) _ _ _ _ hl (okr rfl) (fun _ => rfl) ?_
   rintro m ⟨y22, y23⟩ N h hN
   unfold impl_bindings_B2 at h
   dsimp only at h
   refine rn 1 rfl (ls_seq_k fun K18 hK18 => ?_)
   rcases cond_some h with ⟨g19, h⟩ | ⟨g19, h⟩
   ·refine qT rfl g19 (ls_skip (hK18 _ (ls_seq_k fun K20 hK20 => ls_blk (rs ?_))))
    obtain ⟨e21, g22, h⟩ := ob_some h
    refine qI rfl zc53_o g22 (sp 2 rfl (evn (rn 1 rfl ?_)))
    obtain ⟨o3, hl, hr3⟩ := ob_some h
    have kXB3 : ∀ {z23 : List (List Int)}, z23 = o3 -> Jn K20 [(2, .box [dL c120_dd a0]), (3, .box [nI a1.1, dL c148_d a1.2.1, dL ci64 a1.2.2]), (4, .box [nI 0, oL 53 c53_o []]), (7, oL 3 ci64 y10), (10, .box [oL 3 ci64 v12.1, nI v12.2.1, oL 53 c53_o v12.2.2]), (11, oL 53 c53_o z23), (12, oL 3 ci64 v14), (29, dL c148_d a1.2.1), (30, nI (List.length a1.2.1 : Int)), (31, nI y11), (42, dL c53_o y9), (43, nI (List.length y9 : Int)), (44, nI y23)] := by
     intro z23 h σ' hk
     subst h
     replace h := hr3
     try dsimp only at h
     exact hK20 _ (lh hk rfl (rg (sp 2 rfl (evn (hN _ _ h (okr rfl))))))
    refine ls_rec (fun (s : (List (List Int)) × Int) => match s with | (y26, y27) => [(2, .box [dL c120_dd a0]), (3, .box [nI a1.1, dL c148_d a1.2.1, dL ci64 a1.2.2]), (4, .box [nI 0, oL 53 c53_o []]), (7, oL 3 ci64 y10), (10, .box [oL 3 ci64 v12.1, nI v12.2.1, oL 53 c53_o v12.2.2]), (11, oL 53 c53_o y26), (12, oL 3 ci64 v14), (14, dL ci64 e21), (29, dL c148_d a1.2.1), (30, nI (List.length a1.2.1 : Int)), (31, nI y11), (42, dL c53_o y9), (43, nI (List.length y9 : Int)), (44, nI y23), (50, dL c53_o v12.2.2), (51, nI (List.length v12.2.2 : Int)), (52, nI y27)]) _ _ _ _ hl (okr rfl) (fun _ => rfl) ?_
    rintro m ⟨y26, y27⟩ N h hN
    unfold impl_bindings_B3 at h
    dsimp only at h
    refine rn 1 rfl (ls_seq_k fun K24 hK24 => ?_)
    rcases cond_some h with ⟨g25, h⟩ | ⟨g25, h⟩
    ·refine qT rfl g25 (ls_skip (hK24 _ (ls_seq_k fun K26 hK26 => ls_blk (rs ?_))))
     obtain ⟨e27, g28, h⟩ := ob_some h
     refine qI rfl zc53_o g28 (sp 2 rfl (evn (rs (sp 6 rfl (?_)))))
     obtain ⟨v29, g30, h⟩ := ob_some h
     refine qC (qa rfl (erD eci64 _) (qa rfl (erD eci64 _) (qa rfl (erD eci64 _) (qa rfl (erD eci64 _) (qa rfl (erD eci64 _) eran))))) (impl_glue_s g30) (sp 5 rfl (evn (rn 1 rfl ?_)))
     have kJ4 : ∀ {x31 : List (List Int)}, impl_bindings_J4 (loopF (impl_bindings_B3 y10 v12 v14 e21) m) y27 x31 = some o3 -> Jn K26 [(2, .box [dL c120_dd a0]), (3, .box [nI a1.1, dL c148_d a1.2.1, dL ci64 a1.2.2]), (4, .box [nI 0, oL 53 c53_o []]), (7, oL 3 ci64 y10), (10, .box [oL 3 ci64 v12.1, nI v12.2.1, oL 53 c53_o v12.2.2]), (11, oL 53 c53_o x31), (12, oL 3 ci64 v14), (14, dL ci64 e21), (29, dL c148_d a1.2.1), (30, nI (List.length a1.2.1 : Int)), (31, nI y11), (42, dL c53_o y9), (43, nI (List.length y9 : Int)), (44, nI y23), (50, dL c53_o v12.2.2), (51, nI (List.length v12.2.2 : Int)), (52, nI y27)] := by
      intro x31 h σ' hk
      unfold impl_bindings_J4 at h
      exact hK26 _ (lh hk rfl (rg (sp 2 rfl (evn (hN _ _ h (okr rfl))))))
     rcases cond_some h with ⟨g32, h⟩ | ⟨g32, h⟩
     ·refine qT rfl g32 (rg (sp 2 rfl (qBs c53_o [v29.1] rfl rfl rfl zc53_o (?_))))
      obtain ⟨g33, h⟩ := chk_some h
      exact qA c53_o y26 [v29.1] rfl rfl (flat_len zc53_o [v29.1]) rfl g33 (sp 1 rfl (evn (kJ4 h _ (okr rfl))))
     ·exact qF rfl g32 (ls_skip (kJ4 h _ (okr rfl)))
    ·exact qF rfl g25 (ls_exit (kXB3 (Option.some.inj h) _ (okr rfl)))
   ·exact qF rfl g19 (ls_exit (kXB2 (Option.some.inj h) _ (okr rfl)))
  ·exact qF rfl g8 (ls_exit (kXB1 (Option.some.inj h) _ (okr rfl)))
def impl_CountedFromRelation_B1 (a0 : Y42) (rec : ((List Int) × Int) -> Option ((List Int))) (s : (List Int) × Int) : Option ((List Int)) := match s with
  | (y1, y2) => cond (decide (y2 < (List.length a0.2 : Int))) (chk (List.length y1 + List.length [1] <= lim) (rec ((y1 ++ [1]), (IntKind.i64.wrap (y2 + 1))))) (some y1)
def impl_CountedFromRelation (a0 : Y42) : Option (Y75 × Bool) := obind (impl_IsValidRelation a0) fun v2 => cond (!v2) (some ((0, [], []), false)) (obind (impl_copyRows a0.2) fun v5 => obind (loopF (impl_CountedFromRelation_B1 a0) fz (([] : List Int), 0)) fun z8 => some ((a0.1, v5, z8), true))
theorem impl_CountedFromRelation_s {a0 : Y42} {r : Y75 × Bool} (h : impl_CountedFromRelation a0 = some r) : SoundAt Tryz.prog 118 [.agg (c43_dd a0)] (.tup [.agg (c76_ooo r.1), .bool r.2]) := by
 unfold impl_CountedFromRelation at h
 refine st lit118 rfl (rn 1 rfl (ls_seq_k fun K1 hK1 => rs (sp 1 rfl (?_))))
 obtain ⟨v2, g3, h⟩ := ob_some h
 refine qC (qa rfl (erg (erc rfl (erc (erD ec53_d _) rfl))) eran) (impl_IsValidRelation_s g3) (sp 1 rfl (evn ?_))
 rcases cond_some h with ⟨g4, h⟩ | ⟨g4, h⟩
 ·exact qT rfl g4 (rn 1 rfl (ls_ret ((by cases h; exact ⟨.inl rfl, rfl⟩))))
 ·refine qF rfl g4 (ls_skip (hK1 _ (rd (by kernel_rfl) (sd 4 rfl (?_)))))
  obtain ⟨v5, g6, h⟩ := ob_some h
  refine ed rfl (qC (qa rfl (erD ec53_d _) eran) (impl_copyRows_s g6) (sd 3 rfl (evdn (ls_seq_k fun K7 hK7 => rn 1 rfl ?_))))
  obtain ⟨o1, hl, hr1⟩ := ob_some h
  have kXB1 : ∀ {z8 : List Int}, z8 = o1 -> Jn K7 [(2, .box [nI 0, oL 53 c53_o [], oL 3 ci64 []]), (4, .box [nI a0.1, oL 53 c53_o v5, oL 3 ci64 z8])] := by
   intro z8 h σ' hk
   subst h
   replace h := hr1
   try dsimp only at h
   exact hK7 _ (lh hk rfl (rn 1 rfl (ls_ret ((by cases h; exact ⟨.inl rfl, rfl⟩)))))
  refine ls_rec (fun (s : (List Int) × Int) => match s with | (y1, y2) => [(2, .box [nI 0, oL 53 c53_o [], oL 3 ci64 []]), (4, .box [nI a0.1, oL 53 c53_o v5, oL 3 ci64 y1]), (17, nI (List.length a0.2 : Int)), (18, nI y2)]) _ _ _ _ hl (okr rfl) (fun _ => rfl) ?_
  rintro m ⟨y1, y2⟩ N h hN
  unfold impl_CountedFromRelation_B1 at h
  dsimp only at h
  refine rn 1 rfl (ls_seq_k fun K9 hK9 => ?_)
  rcases cond_some h with ⟨g10, h⟩ | ⟨g10, h⟩
  ·refine qT rfl g10 (ls_skip (hK9 _ (ls_seq_k fun K11 hK11 => ls_blk (rg (sp 2 rfl (qBs ci64 [1] rfl rfl rfl zci64 (?_)))))))
   obtain ⟨g12, h⟩ := chk_some h
   exact qA ci64 y1 [1] rfl rfl (flat_len zci64 [1]) rfl g12 (sp 2 rfl (evn (hK11 _ (rg (sp 2 rfl (evn (hN _ _ h (okr rfl))))))))
  ·exact qF rfl g10 (ls_exit (kXB1 (Option.some.inj h) _ (okr rfl)))
def impl_IsValidCounted_B1 (a0 : Y75) (rec : Int -> Option (Sum (Unit) (Bool))) (y1 : Int) : Option (Sum (Unit) (Bool)) := cond (decide (y1 < (List.length a0.2.2 : Int))) (obind (geti a0.2.2 y1) fun e10 => cond (e10 == 0) (some (.inr false)) (obind (impl_within e10 (-1000000) 1000000) fun v13 => cond (!v13) (some (.inr false)) (rec (IntKind.i64.wrap (y1 + 1))))) (some (.inl ()))
def impl_IsValidCounted (a0 : Y75) : Option (Bool) := obind (impl_rowsValid a0.1 a0.2.1) fun v2 => cond (!v2) (some false) (cond ((List.length a0.2.2 : Int) != (List.length a0.2.1 : Int)) (some false) (obind (loopF (impl_IsValidCounted_B1 a0) fz 0) fun o1 => (match o1 with
  | .inl _ => (some true)
  | .inr r => some r)))
theorem impl_IsValidCounted_s {a0 : Y75} {r : Bool} (h : impl_IsValidCounted a0 = some r) : SoundAt Tryz.prog 151 [.agg (c76_ddd a0)] (.bool r) := by
 unfold impl_IsValidCounted at h
 refine st lit151 rfl (rn 1 rfl (ls_seq_k fun K1 hK1 => rs (sp 4 rfl (?_))))
 obtain ⟨v2, g3, h⟩ := ob_some h
 refine qC (qs rfl (qa rfl (erD ec53_d _) eran)) (impl_rowsValid_s g3) (sp 2 rfl (?_))
 rcases cond_some h with ⟨g4, h⟩ | ⟨g4, h⟩
 ·exact qg 11 g4 rfl (sp 8 rfl (evn (qT rfl rfl (rn 1 rfl (ls_ret ((by cases h; exact ⟨.inl rfl, rfl⟩)))))))
 ·refine qg 11 g4 rfl (sp 8 rfl (evn ?_))
  rcases cond_some h with ⟨g5, h⟩ | ⟨g5, h⟩
  ·exact qT rfl g5 (rn 1 rfl (qk [2] rfl (ls_ret ((by cases h; exact ⟨.inl rfl, rfl⟩)))))
  ·refine qF rfl g5 (ls_skip (hK1 _ (ls_seq_k fun K6 hK6 => rn 1 rfl ?_)))
   obtain ⟨o1, hl, hr1⟩ := ob_some h
   have kXB1 : (.inl ()) = o1 -> Jn K6 [] := by
    intro h σ' hk
    subst h
    replace h := hr1
    try dsimp only at h
    exact hK6 _ (lh hk rfl (rn 1 rfl (ls_ret ((by cases h; exact ⟨.inl rfl, rfl⟩)))))
   refine ls_rec (fun (y1 : Int) => [(21, dL ci64 a0.2.2), (22, nI (List.length a0.2.2 : Int)), (23, nI y1)]) _ _ _ _ hl (okr rfl) (fun _ => rfl) ?_
   rintro m y1 N h hN
   unfold impl_IsValidCounted_B1 at h
   refine rn 1 rfl (ls_seq_k fun K7 hK7 => ?_)
   rcases cond_some h with ⟨g8, h⟩ | ⟨g8, h⟩
   ·refine qT rfl g8 (ls_skip (hK7 _ (ls_seq_k fun K9 hK9 => ls_blk (rs ?_))))
    obtain ⟨e10, g11, h⟩ := ob_some h
    refine qI rfl zci64 g11 (sp 2 rfl (evn (rs (sp 3 rfl (?_)))))
    rcases cond_some h with ⟨g12, h⟩ | ⟨g12, h⟩
    ·exact qg 29 g12 rfl (sp 4 rfl (evn (qT rfl rfl (rn 1 rfl (ls_ret ((by cases h; cases hr1; exact ⟨.inl rfl, rfl⟩)))))))
    ·refine qg 29 g12 rfl (sp 1 rfl (?_))
     obtain ⟨v13, g14, h⟩ := ob_some h
     refine oGR rfl rfl (qC (qs rfl (qs rfl (qs rfl eran))) (impl_within_s g14) (sp 2 rfl (evn ?_)))
     rcases cond_some h with ⟨g15, h⟩ | ⟨g15, h⟩
     ·exact qT rfl g15 (rn 1 rfl (qk [2] rfl (ls_ret ((by cases h; cases hr1; exact ⟨.inl rfl, rfl⟩)))))
     ·exact qF rfl g15 (ls_skip (hK9 _ (rg (sp 2 rfl (evn (hN _ _ h (okr rfl)))))))
   ·exact qF rfl g8 (ls_exit (kXB1 (Option.some.inj h) _ trivial))
def impl_place_B1 (a0 : List (List Int)) (a1 : List Int) (rec : (Int × Int) -> Option (Int)) (s : Int × Int) : Option (Int) := match s with
  | (y1, y2) => cond (decide (y1 < y2)) (obind (geti a0 (IntKind.i64.wrap (Int.tdiv (IntKind.i64.wrap (y1 + y2)) 2))) fun e5 => obind (impl_CompareRows e5 a1) fun v7 => cond (decide (v7 < 0)) (rec ((IntKind.i64.wrap ((IntKind.i64.wrap (Int.tdiv (IntKind.i64.wrap (y1 + y2)) 2)) + 1)), y2)) (rec (y1, (IntKind.i64.wrap (Int.tdiv (IntKind.i64.wrap (y1 + y2)) 2))))) (some y1)
def impl_place_J2 (z2 : Int) (x11 : Bool) : Option (Int × Bool) := some (z2, x11)
def impl_place (a0 : List (List Int)) (a1 : List Int) : Option (Int × Bool) := obind (loopF (impl_place_B1 a0 a1) fz (0, (List.length a0 : Int))) fun z2 => cond (decide (z2 < (List.length a0 : Int))) (obind (geti a0 z2) fun e13 => obind (impl_CompareRows e13 a1) fun v15 => impl_place_J2 z2 (v15 == 0)) (impl_place_J2 z2 false)
theorem impl_place_s {a0 : List (List Int)} {a1 : List Int} {r : Int × Bool} (h : impl_place a0 a1 = some r) : SoundAt Tryz.prog 193 [dL c53_d a0, dL ci64 a1] (.tup [nI r.1, .bool r.2]) := by
 unfold impl_place at h
 refine st lit193 rfl (rn 2 rfl (ls_seq_k fun K1 hK1 => ?_))
 obtain ⟨o1, hl, hr1⟩ := ob_some h
 have kXB1 : ∀ {z2 : Int}, z2 = o1 -> Jn K1 [(0, dL c53_d a0), (1, dL ci64 a1), (6, nI z2)] := by
  intro z2 h σ' hk
  subst h
  replace h := hr1
  try dsimp only at h
  refine hK1 _ (lh hk rfl (rk fun K10 hK10 => ?_))
  have kJ2 : ∀ {x11 : Bool}, impl_place_J2 z2 x11 = some r -> Jn K10 [(4, nI z2), (5, .bool x11)] := by
   intro x11 h σ' hk
   unfold impl_place_J2 at h
   exact hK10 _ (lh hk rfl (ls_ret ((by cases h; exact ⟨.inl rfl, rfl⟩))))
  refine sp 6 rfl (?_)
  rcases cond_some h with ⟨g12, h⟩ | ⟨g12, h⟩
  ·refine qg 33 g12 rfl (sp 2 rfl (?_))
   obtain ⟨e13, g14, h⟩ := ob_some h
   refine oGR rfl rfl (qI rfl zc53_d g14 (sp 2 rfl (?_)))
   obtain ⟨v15, g16, h⟩ := ob_some h
   exact oGR rfl rfl (qC (qa rfl (erD eci64 _) (qa rfl (erD eci64 _) eran)) (impl_CompareRows_s g16) (sp 4 rfl (evn (kJ2 h _ (okr rfl)))))
  ·exact qg 33 g12 rfl (sp 10 rfl (evn (kJ2 h _ (okr rfl))))
 refine ls_rec (fun (s : Int × Int) => match s with | (y1, y2) => [(0, dL c53_d a0), (1, dL ci64 a1), (6, nI y1), (7, nI y2)]) _ _ _ _ hl (okr rfl) (fun _ => rfl) ?_
 rintro m ⟨y1, y2⟩ N h hN
 unfold impl_place_B1 at h
 dsimp only at h
 refine ls_seq_k fun K3 hK3 => rn 1 rfl ?_
 rcases cond_some h with ⟨g4, h⟩ | ⟨g4, h⟩
 ·refine qT rfl g4 (ls_skip (hK3 _ (ls_blk (rn 1 rfl (rs (sp 2 rfl (?_)))))))
  obtain ⟨e5, g6, h⟩ := ob_some h
  refine qI rfl zc53_d g6 (sp 2 rfl (?_))
  obtain ⟨v7, g8, h⟩ := ob_some h
  refine qC (qa rfl (erD eci64 _) (qa rfl (erD eci64 _) eran)) (impl_CompareRows_s g8) (sp 1 rfl (evn ?_))
  rcases cond_some h with ⟨g9, h⟩ | ⟨g9, h⟩
  ·exact qT rfl g9 (rg (sp 3 rfl (evn (hN _ _ h (okr rfl)))))
  ·exact qF rfl g9 (rg (sp 2 rfl (evn (hN _ _ h (okr rfl)))))
 ·exact qF rfl g4 (ls_exit (kXB1 (Option.some.inj h) _ (okr rfl)))
def impl_tally (a0 : Y75) (a1 : List Int) (a2 : Int) : Option (Y75) := obind (impl_place a0.2.1 a1) fun v1 => cond v1.2 (chk (0 < List.length a0.2.2) (obind (geti a0.2.2 v1.1) fun e7 => obind (geti a0.2.2 v1.1) fun e9 => some (a0.1, a0.2.1, seti a0.2.2 v1.1 (IntKind.i64.wrap (e7 + a2))))) (chk ((0 : Int) <= 0 ∧ 0 <= v1.1 ∧ v1.1 <= (List.length (enumP 0 a0.2.1) : Int)) (chk (List.length ([] : List (Nat × (List Int))) + List.length (subl (enumP 0 a0.2.1) 0 v1.1) <= lim) (obind (impl_copyInts a1) fun v13 => chk (List.length (inlM (([] : List (Nat × (List Int))) ++ (subl (enumP 0 a0.2.1) 0 v1.1))) + List.length (inrM ([v13] : List (List Int))) <= lim) (chk ((0 : Int) <= v1.1 ∧ v1.1 <= (List.length (enumP 0 a0.2.1) : Int) ∧ (List.length (enumP 0 a0.2.1) : Int) <= (List.length (enumP 0 a0.2.1) : Int)) (chk (List.length ((inlM (([] : List (Nat × (List Int))) ++ (subl (enumP 0 a0.2.1) 0 v1.1))) ++ (inrM ([v13] : List (List Int)))) + List.length (inlM (subl (enumP 0 a0.2.1) v1.1 (List.length (enumP 0 a0.2.1) : Int))) <= lim) (chk (okJ (a0.2.1) (((inlM (([] : List (Nat × (List Int))) ++ (subl (enumP 0 a0.2.1) 0 v1.1))) ++ (inrM ([v13] : List (List Int)))) ++ (inlM (subl (enumP 0 a0.2.1) v1.1 (List.length (enumP 0 a0.2.1) : Int)))) [] = true) (chk ((0 : Int) <= 0 ∧ 0 <= v1.1 ∧ v1.1 <= (List.length a0.2.2 : Int)) (obind (impl_copyInts (subl a0.2.2 0 v1.1)) fun v20 => chk (List.length v20 + List.length [a2] <= lim) (chk ((0 : Int) <= v1.1 ∧ v1.1 <= (List.length a0.2.2 : Int) ∧ (List.length a0.2.2 : Int) <= (List.length a0.2.2 : Int)) (chk (List.length (v20 ++ [a2]) + List.length (subl a0.2.2 v1.1 (List.length a0.2.2 : Int)) <= lim) (some (a0.1, List.map getM (((inlM (([] : List (Nat × (List Int))) ++ (subl (enumP 0 a0.2.1) 0 v1.1))) ++ (inrM ([v13] : List (List Int)))) ++ (inlM (subl (enumP 0 a0.2.1) v1.1 (List.length (enumP 0 a0.2.1) : Int)))), (v20 ++ [a2]) ++ (subl a0.2.2 v1.1 (List.length a0.2.2 : Int))))))))))))))
theorem impl_tally_s {a0 : Y75} {a1 : List Int} {a2 : Int} {r : Y75} (h : impl_tally a0 a1 a2 = some r) : PtrO Tryz.prog 170 [nI a0.1, oL 53 c53_o a0.2.1, oL 3 ci64 a0.2.2] [dL ci64 a1, nI a2] [nI r.1, oL 53 c53_o r.2.1, oL 3 ci64 r.2.2] := by
 unfold impl_tally at h
 refine stpo lit170 rfl rfl (aall (ableD (fun _ => rfl) _) (aall rfl rfl)) (mvv (argD (fun _ => rfl) _) (mvv rfl rfl)) (dcc rfl (dcc (dco dkc53_o 53 _) (dcc (dco (fun _ => rfl) 3 _) dcn))) (dcc rfl (dcc (dco dkc53_o 53 _) (dcc (dco (fun _ => rfl) 3 _) dcn))) (rs (sp 5 rfl (?_)))
 obtain ⟨v1, g2, h⟩ := ob_some h
 refine qC (qa rfl (erD ec53_o _) (qa rfl (erG eci64 _) eran)) (impl_place_s g2) (sp 5 rfl (evn (ls_seq_k fun K3 hK3 => rn 1 rfl ?_)))
 rcases cond_some h with ⟨g4, h⟩ | ⟨g4, h⟩
 ·refine qT rfl g4 (qk [0, 2, 6] rfl ?_)
  obtain ⟨g5, h⟩ := chk_some h
  refine ls_hg (gLb (q := 900003) (b := 0) [nI a0.1, oL 53 c53_o a0.2.1] [] rfl rfl rfl g5 ?_)
  intro gg6 mm6
  refine qk [0, 2, 6, 900003] rfl (rs (sp 5 rfl (?_)))
  obtain ⟨e7, g8, h⟩ := ob_some h
  refine qIt rfl rfl rfl rfl g8 (?_)
  refine qLe (i := v1.1) (es := 1) (q := 900003) 0 rfl rfl rfl rfl rfl rfl zci64 g8 rfl rfl (?_)
  refine sp 2 rfl (?_)
  obtain ⟨e9, g10, h⟩ := ob_some h
  refine qIt rfl rfl rfl rfl g10 (?_)
  refine qSt (y0 := e9) (i := v1.1) (es := 1) 0 (IntKind.i64.wrap (e7 + a2)) [0] rfl rfl rfl rfl rfl rfl rfl rfl rfl rfl zci64 g10 (fun _ => rfl) (sdL (dcc rfl dcn)) (yc (snc rfl (snc (sO (dco dkc53_o 53 _)) (snc rfl rfl))) yn) (?_)
  exact evn (ls_hg (gDb (q := 900003) (b := 0) [nI a0.1, oL 53 c53_o a0.2.1] [] rfl rfl rfl (sl rfl) (qk [0] rfl (ls_ret ((by cases h; exact ⟨.inl rfl, rfl, rfl⟩))))))
 ·refine qF rfl g4 (ls_skip (hK3 _ (qk [0, 1, 2, 6] rfl (ls_hg (gSb (f := c53_o) (l := a0.2.1) (q := 900001) (b := 0) [nI a0.1] [oL 3 ci64 a0.2.2] rfl rfl rfl (fun _ => rfl) ?_)))))
  intro U us1 hU
  refine qk [0, 1, 2, 6, 900001] rfl (rd (by kernel_rfl) (sd 1 rfl (ed rfl (qBs c53_o [] rfl rfl rfl zc53_o (sd 5 rfl (?_))))))
  obtain ⟨g11, h⟩ := chk_some h
  refine ed rfl (qSl rfl (zpE zc53_o) g11 (?_))
  obtain ⟨g12, h⟩ := chk_some h
  refine ed rfl (qA (pE c53_o U) ([] : List (Nat × (List Int))) (subl (enumP 0 a0.2.1) 0 v1.1) rfl rfl (flat_len (zpE zc53_o) (subl (enumP 0 a0.2.1) 0 v1.1)) (map_dgp _) g12 (sd 1 rfl (?_)))
  obtain ⟨v13, g14, h⟩ := ob_some h
  refine ed rfl (qC (qa rfl (erG eci64 _) eran) (impl_copyInts_s g14) (ed rfl (qBs c53_o [v13] rfl rfl rfl zc53_o (?_))))
  obtain ⟨g15, h⟩ := chk_some h
  refine ed rfl (qA2 (mE c53_o U) (inlM (([] : List (Nat × (List Int))) ++ (subl (enumP 0 a0.2.1) 0 v1.1))) (inrM ([v13] : List (List Int))) rfl rfl (flat_len zc53_o [v13]) l_inl c_inl l_inr c_inr g15 (sd 5 rfl (?_)))
  obtain ⟨g16, h⟩ := chk_some h
  refine ed rfl (qSl rfl (zpE zc53_o) g16 (?_))
  obtain ⟨g17, h⟩ := chk_some h
  refine ed rfl (qA2 (mE c53_o U) ((inlM (([] : List (Nat × (List Int))) ++ (subl (enumP 0 a0.2.1) 0 v1.1))) ++ (inrM ([v13] : List (List Int)))) (inlM (subl (enumP 0 a0.2.1) v1.1 (List.length (enumP 0 a0.2.1) : Int))) rfl rfl (flat_len (zpE zc53_o) (subl (enumP 0 a0.2.1) v1.1 (List.length (enumP 0 a0.2.1) : Int))) rfl rfl l_inl ((map_dgp _).trans c_inl) g17 (sd 3 rfl (evdn ?_)))
  obtain ⟨g18, h⟩ := chk_some h
  refine ls_hg (gJb (f := c53_o) (l := a0.2.1) (q := 900001) (b := 0) [nI a0.1] [oL 3 ci64 a0.2.2] (((inlM (([] : List (Nat × (List Int))) ++ (subl (enumP 0 a0.2.1) 0 v1.1))) ++ (inrM ([v13] : List (List Int)))) ++ (inlM (subl (enumP 0 a0.2.1) v1.1 (List.length (enumP 0 a0.2.1) : Int)))) rfl rfl rfl rfl (fun _ => rfl) hU g18 (qk [0, 2, 6] rfl (rgd (by kernel_rfl) (sd 6 rfl (?_)))))
  obtain ⟨g19, h⟩ := chk_some h
  refine ed rfl (qSl rfl zci64 g19 (?_))
  obtain ⟨v20, g21, h⟩ := ob_some h
  refine ed rfl (qC (qa rfl (erD eci64 _) eran) (impl_copyInts_s g21) (sd 1 rfl (ed rfl (qBs ci64 [a2] rfl rfl rfl zci64 (?_)))))
  obtain ⟨g22, h⟩ := chk_some h
  refine ed rfl (qA ci64 v20 [a2] rfl rfl (flat_len zci64 [a2]) rfl g22 (sd 5 rfl (?_)))
  obtain ⟨g23, h⟩ := chk_some h
  refine ed rfl (qSl rfl zci64 g23 (?_))
  obtain ⟨g24, h⟩ := chk_some h
  exact ed rfl (qA ci64 (v20 ++ [a2]) (subl a0.2.2 v1.1 (List.length a0.2.2 : Int)) rfl rfl (flat_len zci64 (subl a0.2.2 v1.1 (List.length a0.2.2 : Int))) (map_dg (fun _ => rfl) _) g24 (sd 3 rfl (evdn ((by cases h; exact ⟨.inr rfl, rfl, rfl⟩)))))
def impl_settled_J2 (rec : ((List (Nat × (List Int))) × (List Int) × Int) -> Option ((List (Nat × (List Int))) × (List Int))) (y3 : Int) (x9 : List (Nat × (List Int))) (x10 : List Int) : Option ((List (Nat × (List Int))) × (List Int)) := rec (x9, x10, (IntKind.i64.wrap (y3 + 1)))
def impl_settled_B1 (a0 : Int × (List (Nat × (List Int))) × (List Int)) (rec : ((List (Nat × (List Int))) × (List Int) × Int) -> Option ((List (Nat × (List Int))) × (List Int))) (s : (List (Nat × (List Int))) × (List Int) × Int) : Option ((List (Nat × (List Int))) × (List Int)) := match s with
  | (y1, y2, y3) => cond (decide (y3 < (List.length a0.2.2 : Int))) (obind (geti a0.2.2 y3) fun e7 => cond (e7 != 0) (obind (geti a0.2.1 y3) fun e12 => chk (List.length y1 + List.length [e12] <= lim) (chk (List.length y2 + List.length [e7] <= lim) (impl_settled_J2 rec y3 (y1 ++ [e12]) (y2 ++ [e7])))) (impl_settled_J2 rec y3 y1 y2)) (some (y1, y2))
def impl_settled (a0 : Int × (List (Nat × (List Int))) × (List Int)) : Option ((Int × (List (Nat × (List Int))) × (List Int))) := obind (loopF (impl_settled_B1 a0) fz (([] : List (Nat × (List Int))), ([] : List Int), 0)) fun o1 => (match o1 with
  | (z2, z3) => (some (a0.1, z2, z3)))
theorem impl_settled_s {U : Nat -> Value} {a0 : Int × (List (Nat × (List Int))) × (List Int)} {r : (Int × (List (Nat × (List Int))) × (List Int))} (h : impl_settled a0 = some r) : SoundAt Tryz.prog 172 [.agg [nI a0.1, dL (pE c53_o U) a0.2.1, dL ci64 a0.2.2]] (.agg [nI r.1, oL 53 (pE c53_o U) r.2.1, oL 3 ci64 r.2.2]) := by
 unfold impl_settled at h
 refine st lit172 rfl (rn 2 rfl (ls_seq_k fun K1 hK1 => rn 1 rfl ?_))
 obtain ⟨o1, hl, hr1⟩ := ob_some h
 have kXB1 : ∀ {z2 : List (Nat × (List Int))} {z3 : List Int}, (z2, z3) = o1 -> Jn K1 [(2, .box [nI 0, oL 53 c53_o [], oL 3 ci64 []]), (3, .box [nI a0.1, oL 53 (pE c53_o U) z2, oL 3 ci64 z3])] := by
  intro z2 z3 h σ' hk
  subst h
  replace h := hr1
  try dsimp only at h
  exact hK1 _ (lh hk rfl (rn 1 rfl (ls_ret ((by cases h; exact ⟨.inl rfl, rfl⟩)))))
 refine ls_rec (fun (s : (List (Nat × (List Int))) × (List Int) × Int) => match s with | (y1, y2, y3) => [(1, .box [nI a0.1, dL (pE c53_o U) a0.2.1, dL ci64 a0.2.2]), (2, .box [nI 0, oL 53 c53_o [], oL 3 ci64 []]), (3, .box [nI a0.1, oL 53 (pE c53_o U) y1, oL 3 ci64 y2]), (10, dL ci64 a0.2.2), (11, nI (List.length a0.2.2 : Int)), (12, nI y3)]) _ _ _ _ hl (okr rfl) (fun _ => rfl) ?_
 rintro m ⟨y1, y2, y3⟩ N h hN
 unfold impl_settled_B1 at h
 dsimp only at h
 refine rn 1 rfl (ls_seq_k fun K4 hK4 => ?_)
 rcases cond_some h with ⟨g5, h⟩ | ⟨g5, h⟩
 ·refine qT rfl g5 (ls_skip (hK4 _ (ls_seq_k fun K6 hK6 => ls_blk (rs (sp 1 rfl (?_))))))
  obtain ⟨e7, g8, h⟩ := ob_some h
  refine qI rfl zci64 g8 (sp 3 rfl (evn (rn 1 rfl ?_)))
  have kJ2 : ∀ {x9 : List (Nat × (List Int))} {x10 : List Int}, impl_settled_J2 (loopF (impl_settled_B1 a0) m) y3 x9 x10 = some o1 -> Jn K6 [(1, .box [nI a0.1, dL (pE c53_o U) a0.2.1, dL ci64 a0.2.2]), (2, .box [nI 0, oL 53 c53_o [], oL 3 ci64 []]), (3, .box [nI a0.1, oL 53 (pE c53_o U) x9, oL 3 ci64 x10]), (10, dL ci64 a0.2.2), (11, nI (List.length a0.2.2 : Int)), (12, nI y3)] := by
   intro x9 x10 h σ' hk
   unfold impl_settled_J2 at h
   exact hK6 _ (lh hk rfl (rg (sp 2 rfl (evn (hN _ _ h (okr rfl))))))
  rcases cond_some h with ⟨g11, h⟩ | ⟨g11, h⟩
  ·refine qT rfl g11 (rd (by kernel_rfl) (sd 5 rfl (?_)))
   obtain ⟨e12, g13, h⟩ := ob_some h
   refine ed rfl (qI rfl (zpE zc53_o) g13 (sd 1 rfl (ed rfl (qBs (pE c53_o U) [e12] rfl rfl rfl (zpE zc53_o) (?_)))))
   obtain ⟨g14, h⟩ := chk_some h
   refine ed rfl (qA (pE c53_o U) y1 [e12] rfl rfl (flat_len (zpE zc53_o) [e12]) rfl g14 (sd 2 rfl (evdn (rg (sp 3 rfl (qBs ci64 [e7] rfl rfl rfl zci64 (?_)))))))
   obtain ⟨g15, h⟩ := chk_some h
   exact qA ci64 y2 [e7] rfl rfl (flat_len zci64 [e7]) rfl g15 (sp 2 rfl (evn (kJ2 h _ (okr rfl))))
  ·exact qF rfl g11 (ls_skip (kJ2 h _ (okr rfl)))
 ·exact qF rfl g5 (ls_exit (kXB1 (Option.some.inj h) _ (okr rfl)))
def impl_ProjectCounted_B1 (a0 : Y75) (a1 : List Int) (rec : (Int × (List (List Int)) × (List Int) × Int) -> Option (Int × (List (List Int)) × (List Int))) (s : Int × (List (List Int)) × (List Int) × Int) : Option (Int × (List (List Int)) × (List Int)) := match s with
  | (y1, y2, y3, y4) => cond (decide (y4 < (List.length a0.2.1 : Int))) (obind (geti a0.2.1 y4) fun e15 => obind (impl_pick e15 a1) fun v17 => obind (geti a0.2.2 y4) fun e19 => obind (impl_tally (y1, y2, y3) v17 e19) fun v21 => rec (v21.1, v21.2.1, v21.2.2, (IntKind.i64.wrap (y4 + 1)))) (some (y1, y2, y3))
def impl_ProjectCounted (a0 : Y75) (a1 : List Int) : Option (Y75 × Bool) := obind (impl_IsValidCounted a0) fun v2 => cond (!v2) (some ((0, [], []), false)) (obind (impl_columnsFit a0.1 a1) fun v5 => cond (!v5) (some ((0, [], []), false)) (obind (loopF (impl_ProjectCounted_B1 a0 a1) fz ((List.length a1 : Int), ([] : List (List Int)), ([] : List Int), 0)) fun o1 => (match o1 with
  | (z9, z10, z11) => (obind (impl_settled (z9, enumP 0 z10, z11)) fun v23 => chk (okJ (z10) (inlM v23.2.1) [] = true) (obind (impl_IsValidCounted (v23.1, List.map getM (inlM v23.2.1), v23.2.2)) fun v27 => cond (!v27) (some ((0, [], []), false)) (some ((v23.1, List.map getM (inlM v23.2.1), v23.2.2), true)))))))
theorem impl_ProjectCounted_s {a0 : Y75} {a1 : List Int} {r : Y75 × Bool} (h : impl_ProjectCounted a0 a1 = some r) : SoundAt Tryz.prog 119 [.agg (c76_ddd a0), dL ci64 a1] (.tup [.agg (c76_ooo r.1), .bool r.2]) := by
 unfold impl_ProjectCounted at h
 refine sta lit119 rfl (aall (bcc rfl (bcc (ableD bkc53_d _) (bcc (ableD (fun _ => rfl) _) rfl))) (aall (ableD (fun _ => rfl) _) rfl)) (mvv (vag (vcc rfl (vcc (argD vkc53_d _) (vcc (argD (fun _ => rfl) _) rfl)))) (mvv (argD (fun _ => rfl) _) rfl)) (dcc (dag (dcc rfl (dcc (dco dkc53_o 53 _) (dcc (dco (fun _ => rfl) 3 _) dcn)))) (dcc rfl dcn)) (rn 1 rfl (ls_seq_k fun K1 hK1 => rs (sp 1 rfl (?_))))
 obtain ⟨v2, g3, h⟩ := ob_some h
 refine qC (qa rfl (erg (erc rfl (erc (erG ec53_a _) (erc (erG eci64 _) rfl)))) eran) (impl_IsValidCounted_s g3) (sp 2 rfl (?_))
 rcases cond_some h with ⟨g4, h⟩ | ⟨g4, h⟩
 ·exact qg 13 g4 rfl (sp 6 rfl (evn (qT rfl rfl (rn 1 rfl (ls_ret ((by cases h; exact ⟨.inl rfl, rfl⟩)))))))
 ·refine qg 13 g4 rfl (sp 3 rfl (?_))
  obtain ⟨v5, g6, h⟩ := ob_some h
  refine oGR rfl rfl (qC (qs rfl (qa rfl (erG eci64 _) eran)) (impl_columnsFit_s g6) (sp 2 rfl (evn ?_)))
  rcases cond_some h with ⟨g7, h⟩ | ⟨g7, h⟩
  ·exact qT rfl g7 (rn 1 rfl (ls_ret ((by cases h; exact ⟨.inl rfl, rfl⟩))))
  ·refine qF rfl g7 (ls_skip (hK1 _ (qk [1, 2, 4] rfl (rn 1 rfl (ls_seq_k fun K8 hK8 => rn 1 rfl ?_)))))
   obtain ⟨o1, hl, hr1⟩ := ob_some h
   have kXB1 : ∀ {z9 : Int} {z10 : List (List Int)} {z11 : List Int}, (z9, z10, z11) = o1 -> Jn K8 [(4, .box [nI 0, oL 53 c53_o [], oL 3 ci64 []]), (6, .box [nI z9, oL 53 c53_o z10, oL 3 ci64 z11])] := by
    intro z9 z10 z11 h σ' hk
    subst h
    replace h := hr1
    try dsimp only at h
    refine hK8 _ (lh hk rfl (qk [4, 6] rfl (ls_hg (gSb (f := c53_o) (l := z10) (q := 900001) (b := 6) [nI z9] [oL 3 ci64 z11] rfl rfl rfl (fun _ => rfl) ?_))))
    intro U us1 hU
    refine kp [(4, .box [nI 0, oL 53 c53_o [], oL 3 ci64 []]), (6, .box [nI z9, oL 53 (pE c53_o U) (enumP 0 z10), oL 3 ci64 z11]), (900001, .gh us1 (List.map (fun x => tokC (c53_o x)) z10))] rfl rfl (rs (sp 1 rfl (?_)))
    obtain ⟨v23, g24, h⟩ := ob_some h
    refine qCi rfl rfl rfl (impl_settled_s g24) (sp 2 rfl (evn (ls_seq_k fun K25 hK25 => qk [4, 9, 900001] rfl ?_)))
    obtain ⟨g26, h⟩ := chk_some h
    refine ls_hg (gJb (f := c53_o) (l := z10) (q := 900001) (b := 9) [nI v23.1] [oL 3 ci64 v23.2.2] (inlM v23.2.1) rfl own_inM rfl rfl (fun _ => rfl) hU g26 (kp [(4, .box [nI 0, oL 53 c53_o [], oL 3 ci64 []]), (9, .box [nI v23.1, oL 53 c53_o (List.map getM (inlM v23.2.1)), oL 3 ci64 v23.2.2])] rfl rfl (rs (sp 1 rfl (?_)))))
    obtain ⟨v27, g28, h⟩ := ob_some h
    refine qC (qa rfl (erg (erc rfl (erc (erD ec53_o _) (erc (erD eci64 _) rfl)))) eran) (impl_IsValidCounted_s g28) (sp 1 rfl (evn ?_))
    rcases cond_some h with ⟨g29, h⟩ | ⟨g29, h⟩
    ·exact qT rfl g29 (rn 1 rfl (ls_ret ((by cases h; exact ⟨.inl rfl, rfl⟩))))
    ·exact qF rfl g29 (ls_skip (hK25 _ (rn 1 rfl (ls_ret ((by cases h; exact ⟨.inl rfl, rfl⟩))))))
   refine ls_rec (fun (s : Int × (List (List Int)) × (List Int) × Int) => match s with | (y1, y2, y3, y4) => [(1, aL ci64 a1), (2, .box [nI a0.1, aL c53_a a0.2.1, aL ci64 a0.2.2]), (4, .box [nI 0, oL 53 c53_o [], oL 3 ci64 []]), (6, .box [nI y1, oL 53 c53_o y2, oL 3 ci64 y3]), (25, aL c53_a a0.2.1), (26, nI (List.length a0.2.1 : Int)), (27, nI y4)]) _ _ _ _ hl (okr rfl) (fun _ => rfl) ?_
   rintro m ⟨y1, y2, y3, y4⟩ N h hN
   unfold impl_ProjectCounted_B1 at h
   dsimp only at h
   refine rn 1 rfl (ls_seq_k fun K12 hK12 => ?_)
   rcases cond_some h with ⟨g13, h⟩ | ⟨g13, h⟩
   ·refine qT rfl g13 (ls_skip (hK12 _ (ls_seq_k fun K14 hK14 => ls_blk (rs (sp 1 rfl (?_))))))
    obtain ⟨e15, g16, h⟩ := ob_some h
    refine qI rfl zc53_a g16 (sp 3 rfl (evn (qk [1, 2, 4, 6, 7, 8, 25, 26, 27] rfl (rgt 8 (by kernel_rfl) (sd 2 rfl (?_))))))
    obtain ⟨v17, g18, h⟩ := ob_some h
    refine ed rfl (qC (qa rfl (erG eci64 _) (qa rfl (erG eci64 _) eran)) (impl_pick_s g18) (sd 3 rfl (?_)))
    obtain ⟨e19, g20, h⟩ := ob_some h
    refine ed rfl (qI rfl zci64 g20 (sd 1 rfl (evdn (gh_k ?_))))
    obtain ⟨v21, g22, h⟩ := ob_some h
    exact qPo [1, 2, 4, 25, 26, 27, 34, 39] rfl rfl rfl rfl (qa rfl (erO eci64 _) (qs rfl eran)) (dcc rfl (dcc (dco dkc53_o 53 _) (dcc (dco (fun _ => rfl) 3 _) dcn))) (impl_tally_s g22) rfl (yc (acf (fun _ => rfl) _) (yc (snc rfl (snc (sA (aca gkc53_a _)) (snc (sA (aca (fun _ => rfl) _)) rfl))) (yc (snc rfl (snc rfl (snc rfl rfl))) (yc (acf gkc53_a _) (yc rfl (yc rfl (yc (sdL (dcf (fun _ => rfl) _)) (yc rfl yn)))))))) (evn (hK14 _ (rg (sp 2 rfl (evn (hN _ _ h (okr rfl)))))))
   ·exact qF rfl g13 (ls_exit (kXB1 (Option.some.inj h) _ (okr rfl)))
def c148_o (x : Y147) : List V := [.str x.1, oL 3 ci64 x.2]
theorem zc148_o (x : Y147) : (c148_o x).length = 2 := rfl
theorem ec148_o (x : Y147) : erL (c148_o x) = c148_d x := (erc rfl (erc (erO eci64 _) rfl))
def c55_ooo (x : Y54) : List V := [nI x.1, oL 148 c148_o x.2.1, oL 3 ci64 x.2.2]
theorem zc55_ooo (x : Y54) : (c55_ooo x).length = 3 := rfl
theorem ec55_ooo (x : Y54) : erL (c55_ooo x) = c55_ddd x := (erc rfl (erc (erO ec148_o _) (erc (erO eci64 _) rfl)))
def impl_copyQuery_B1 (a0 : Y54) (rec : ((List Y147) × Int) -> Option ((List Y147))) (s : (List Y147) × Int) : Option ((List Y147)) := match s with
  | (y1, y2) => cond (decide (y2 < (List.length a0.2.1 : Int))) (obind (geti a0.2.1 y2) fun e8 => obind (impl_copyInts e8.2) fun v10 => chk (List.length y1 + List.length [(e8.1, v10)] <= lim) (rec ((y1 ++ [(e8.1, v10)]), (IntKind.i64.wrap (y2 + 1))))) (some y1)
def impl_copyQuery (a0 : Y54) : Option (Y54) := obind (impl_copyInts a0.2.2) fun v1 => obind (loopF (impl_copyQuery_B1 a0) fz (([] : List Y147), 0)) fun z4 => some (a0.1, z4, v1)
theorem impl_copyQuery_s {a0 : Y54} {r : Y54} (h : impl_copyQuery a0 = some r) : SoundAt Tryz.prog 120 [.agg (c55_ddd a0)] (.agg (c55_ooo r)) := by
 unfold impl_copyQuery at h
 refine st lit120 rfl (rn 1 rfl (rd (by kernel_rfl) (sd 4 rfl (?_))))
 obtain ⟨v1, g2, h⟩ := ob_some h
 refine ed rfl (qC (qa rfl (erD eci64 _) eran) (impl_copyInts_s g2) (sd 3 rfl (evdn (ls_seq_k fun K3 hK3 => rn 1 rfl ?_))))
 obtain ⟨o1, hl, hr1⟩ := ob_some h
 have kXB1 : ∀ {z4 : List Y147}, z4 = o1 -> Jn K3 [(2, .box [nI 0, oL 148 c148_o [], oL 3 ci64 []]), (3, .box [nI a0.1, oL 148 c148_o z4, oL 3 ci64 v1])] := by
  intro z4 h σ' hk
  subst h
  replace h := hr1
  try dsimp only at h
  exact hK3 _ (lh hk rfl (rn 1 rfl (ls_ret ((by cases h; exact ⟨.inl rfl, rfl⟩)))))
 refine ls_rec (fun (s : (List Y147) × Int) => match s with | (y1, y2) => [(2, .box [nI 0, oL 148 c148_o [], oL 3 ci64 []]), (3, .box [nI a0.1, oL 148 c148_o y1, oL 3 ci64 v1]), (13, dL c148_d a0.2.1), (14, nI (List.length a0.2.1 : Int)), (15, nI y2)]) _ _ _ _ hl (okr rfl) (fun _ => rfl) ?_
 rintro m ⟨y1, y2⟩ N h hN
 unfold impl_copyQuery_B1 at h
 dsimp only at h
 refine rn 1 rfl (ls_seq_k fun K5 hK5 => ?_)
 rcases cond_some h with ⟨g6, h⟩ | ⟨g6, h⟩
 ·refine qT rfl g6 (ls_skip (hK5 _ (ls_seq_k fun K7 hK7 => ls_blk (rs ?_))))
  obtain ⟨e8, g9, h⟩ := ob_some h
  refine qI rfl zc148_d g9 (sp 3 rfl (evn (rgd (by kernel_rfl) (sd 6 rfl (?_)))))
  obtain ⟨v10, g11, h⟩ := ob_some h
  refine ed rfl (qC (qa rfl (erD eci64 _) eran) (impl_copyInts_s g11) (sd 1 rfl (ed rfl (qBs c148_o [(e8.1, v10)] rfl rfl rfl zc148_o (?_)))))
  obtain ⟨g12, h⟩ := chk_some h
  exact ed rfl (qA c148_o y1 [(e8.1, v10)] rfl rfl (flat_len zc148_o [(e8.1, v10)]) rfl g12 (sd 2 rfl (evdn (hK7 _ (rg (sp 2 rfl (evn (hN _ _ h (okr rfl)))))))))
 ·exact qF rfl g6 (ls_exit (kXB1 (Option.some.inj h) _ (okr rfl)))
def c78_oooooo (x : Y77) : List V := [nI x.1.1, oL 148 c148_o x.1.2.1, oL 3 ci64 x.1.2.2, nI x.2.1, oL 53 c53_o x.2.2.1, oL 3 ci64 x.2.2.2]
theorem zc78_oooooo (x : Y77) : (c78_oooooo x).length = 6 := rfl
theorem ec78_oooooo (x : Y77) : erL (c78_oooooo x) = c78_dddddd x := (erc rfl (erc (erO ec148_o _) (erc (erO eci64 _) (erc rfl (erc (erO ec53_o _) (erc (erO eci64 _) rfl))))))
def impl_NewView (a0 : List Y119) (a1 : Y54) : Option (Y77 × Bool) := obind (impl_bindings a0 a1) fun v1 => cond (!v1.2) (some (((0, [], []), (0, [], [])), false)) (obind (impl_CountedFromRelation v1.1) fun v5 => obind (impl_ProjectCounted v5.1 a1.2.2) fun v7 => cond (!v7.2) (some (((0, [], []), (0, [], [])), false)) (obind (impl_copyQuery a1) fun v11 => some ((v11, v7.1), true)))
theorem impl_NewView_s {a0 : List Y119} {a1 : Y54} {r : Y77 × Bool} (h : impl_NewView a0 a1 = some r) : SoundAt Tryz.prog 61 [.agg [dL c120_dd a0], .agg (c55_ddd a1)] (.tup [.agg (c78_oooooo r.1), .bool r.2]) := by
 unfold impl_NewView at h
 refine st lit61 rfl (rn 1 rfl (rs (sp 2 rfl (?_))))
 obtain ⟨v1, g2, h⟩ := ob_some h
 refine qC (qa rfl (erg (erc (erD ec120_dd _) rfl)) (qa rfl (erg (erc rfl (erc (erD ec148_d _) (erc (erD eci64 _) rfl)))) eran)) (impl_bindings_s g2) (sp 6 rfl (evn (ls_seq_k fun K3 hK3 => rn 1 rfl ?_)))
 rcases cond_some h with ⟨g4, h⟩ | ⟨g4, h⟩
 ·exact qT rfl g4 (rn 1 rfl (ls_ret ((by cases h; exact ⟨.inl rfl, rfl⟩))))
 ·refine qF rfl g4 (ls_skip (hK3 _ (rs (sp 1 rfl (?_)))))
  obtain ⟨v5, g6, h⟩ := ob_some h
  refine qC (qa rfl (erg (erc rfl (erc (erD ec53_o _) rfl))) eran) (impl_CountedFromRelation_s g6) (sp 6 rfl (evn (rs (sp 3 rfl (?_)))))
  obtain ⟨v7, g8, h⟩ := ob_some h
  refine qC (qa rfl (erg (erc rfl (erc (erD ec53_o _) (erc (erD eci64 _) rfl)))) (qa rfl (erD eci64 _) eran)) (impl_ProjectCounted_s g8) (sp 6 rfl (evn (qk [3, 4, 10, 11] rfl (ls_seq_k fun K9 hK9 => rn 1 rfl ?_))))
  rcases cond_some h with ⟨g10, h⟩ | ⟨g10, h⟩
  ·exact qT rfl g10 (rn 1 rfl (ls_ret ((by cases h; exact ⟨.inl rfl, rfl⟩))))
  ·refine qF rfl g10 (ls_skip (hK9 _ (rd (by kernel_rfl) (sd 1 rfl (?_)))))
   obtain ⟨v11, g12, h⟩ := ob_some h
   exact ed rfl (qC (qa rfl (erg (erc rfl (erc (erD ec148_d _) (erc (erD eci64 _) rfl)))) eran) (impl_copyQuery_s g12) (sd 4 rfl (evdn (ls_ret ((by cases h; exact ⟨.inl rfl, rfl⟩))))))
def impl_IsValidView_J1 (x4 : Bool) : Option (Bool) := some x4
def impl_IsValidView (a0 : List Y119) (a1 : Y77) : Option (Bool) := obind (impl_NewView a0 a1.1) fun v1 => cond v1.2 (obind (impl_EqualCounted v1.1.2 a1.2) fun v6 => impl_IsValidView_J1 v6) (impl_IsValidView_J1 false)
theorem impl_IsValidView_s {a0 : List Y119} {a1 : Y77} {r : Bool} (h : impl_IsValidView a0 a1 = some r) : SoundAt Tryz.prog 42 [.agg [dL c120_dd a0], .agg (c78_dddddd a1)] (.bool r) := by
 unfold impl_IsValidView at h
 refine st lit42 rfl (rn 1 rfl (rs (sp 3 rfl (?_))))
 obtain ⟨v1, g2, h⟩ := ob_some h
 refine qC (qa rfl (erg (erc (erD ec120_dd _) rfl)) (qa rfl (erg (erc rfl (erc (erD ec148_d _) (erc (erD eci64 _) rfl)))) eran)) (impl_NewView_s g2) (sp 6 rfl (evn (rk fun K3 hK3 => ?_)))
 have kJ1 : ∀ {x4 : Bool}, impl_IsValidView_J1 x4 = some r -> Jn K3 [(4, .bool x4)] := by
  intro x4 h σ' hk
  unfold impl_IsValidView_J1 at h
  exact hK3 _ (lh hk rfl (ls_ret ((by cases h; exact ⟨.inl rfl, rfl⟩))))
 refine sp 2 rfl (?_)
 rcases cond_some h with ⟨g5, h⟩ | ⟨g5, h⟩
 ·refine qg 15 g5 rfl (sp 4 rfl (?_))
  obtain ⟨v6, g7, h⟩ := ob_some h
  exact oGR rfl rfl (qC (qa rfl (erg (erc rfl (erc (erD ec53_o _) (erc (erD eci64 _) rfl)))) (qa rfl (erg (erc rfl (erc (erD ec53_d _) (erc (erD eci64 _) rfl)))) eran)) (impl_EqualCounted_s g7) (sp 2 rfl (evn (kJ1 h _ (okr rfl)))))
 ·exact qg 15 g5 rfl (sp 7 rfl (evn (kJ1 h _ (okr rfl))))
def impl_IsValidNotifier_B1 (a0 : Y36) (rec : Int -> Option (Sum (Unit) (Bool))) (y1 : Int) : Option (Sum (Unit) (Bool)) := cond (decide (y1 < (List.length a0.2.1 : Int))) (obind (geti a0.2.1 y1) fun e11 => obind (impl_IsValidView a0.1 e11) fun v13 => cond (!v13) (some (.inr false)) (obind (geti a0.2.2 y1) fun e16 => obind (impl_EqualCounted e16 e11.2) fun v18 => cond (!v18) (some (.inr false)) (rec (IntKind.i64.wrap (y1 + 1))))) (some (.inl ()))
def impl_IsValidNotifier (a0 : Y36) : Option (Bool) := obind (impl_IsValidDatabase a0.1) fun v2 => cond (!v2) (some false) (cond (decide (4 < (List.length a0.2.1 : Int))) (some false) (cond ((List.length a0.2.2 : Int) != (List.length a0.2.1 : Int)) (some false) (obind (loopF (impl_IsValidNotifier_B1 a0) fz 0) fun o1 => (match o1 with
  | .inl _ => (some true)
  | .inr r => some r))))
theorem impl_IsValidNotifier_s {a0 : Y36} {r : Bool} (h : impl_IsValidNotifier a0 = some r) : SoundAt Tryz.prog 10 [.agg (c37_dddddddddddddd a0)] (.bool r) := by
 unfold impl_IsValidNotifier at h
 refine st lit10 rfl (rn 2 rfl (ls_seq_k fun K1 hK1 => rs (sp 2 rfl (?_))))
 obtain ⟨v2, g3, h⟩ := ob_some h
 refine qC (qa rfl (erg (erc (erD ec120_dd _) rfl)) eran) (impl_IsValidDatabase_s g3) (sp 2 rfl (?_))
 rcases cond_some h with ⟨g4, h⟩ | ⟨g4, h⟩
 ·exact qg 11 g4 rfl (sp 14 rfl (evn (qT rfl rfl (rn 1 rfl (ls_ret ((by cases h; exact ⟨.inl rfl, rfl⟩)))))))
 ·refine qg 11 g4 rfl (sp 6 rfl (?_))
  rcases cond_some h with ⟨g5, h⟩ | ⟨g5, h⟩
  ·exact qg 17 g5 rfl (sp 8 rfl (evn (qk [3, 25] rfl (qT rfl rfl (rn 1 rfl (ls_ret ((by cases h; exact ⟨.inl rfl, rfl⟩))))))))
  ·refine qg 17 g5 rfl (sp 8 rfl (evn ?_))
   rcases cond_some h with ⟨g6, h⟩ | ⟨g6, h⟩
   ·exact qT rfl g6 (rn 1 rfl (ls_ret ((by cases h; exact ⟨.inl rfl, rfl⟩))))
   ·refine qF rfl g6 (ls_skip (hK1 _ (ls_seq_k fun K7 hK7 => rn 1 rfl ?_)))
    obtain ⟨o1, hl, hr1⟩ := ob_some h
    have kXB1 : (.inl ()) = o1 -> Jn K7 [] := by
     intro h σ' hk
     subst h
     replace h := hr1
     try dsimp only at h
     exact hK7 _ (lh hk rfl (rn 1 rfl (ls_ret ((by cases h; exact ⟨.inl rfl, rfl⟩)))))
    refine ls_rec (fun (y1 : Int) => [(3, .box [dL c120_dd a0.1, dL c78_dddddd a0.2.1, dL c76_ddd a0.2.2]), (27, dL c78_dddddd a0.2.1), (28, nI (List.length a0.2.1 : Int)), (29, nI y1)]) _ _ _ _ hl (okr rfl) (fun _ => rfl) ?_
    rintro m y1 N h hN
    unfold impl_IsValidNotifier_B1 at h
    refine rn 1 rfl (ls_seq_k fun K8 hK8 => ?_)
    rcases cond_some h with ⟨g9, h⟩ | ⟨g9, h⟩
    ·refine qT rfl g9 (ls_skip (hK8 _ (ls_seq_k fun K10 hK10 => ls_blk (rs (sp 1 rfl (?_))))))
     obtain ⟨e11, g12, h⟩ := ob_some h
     refine qI rfl zc78_dddddd g12 (sp 4 rfl (evn (rd (by kernel_rfl) (sd 3 rfl (?_)))))
     obtain ⟨v13, g14, h⟩ := ob_some h
     refine ed rfl (qC (qa rfl (erg (erc (erD ec120_dd _) rfl)) (qa rfl (erg (erc rfl (erc (erD ec148_d _) (erc (erD eci64 _) (erc rfl (erc (erD ec53_d _) (erc (erD eci64 _) rfl))))))) eran)) (impl_IsValidView_s g14) (sd 2 rfl (?_)))
     rcases cond_some h with ⟨g15, h⟩ | ⟨g15, h⟩
     ·exact qgd 39 g15 rfl (sd 10 rfl (evdn (qT rfl rfl (rn 1 rfl (qk [2] rfl (ls_ret ((by cases h; cases hr1; exact ⟨.inl rfl, rfl⟩))))))))
     ·refine qgd 39 g15 rfl (sd 3 rfl (?_))
      obtain ⟨e16, g17, h⟩ := ob_some h
      refine ed rfl (oGR rfl rfl (qI rfl zc76_ddd g17 (sd 3 rfl (?_))))
      obtain ⟨v18, g19, h⟩ := ob_some h
      refine ed rfl (oGR rfl rfl (qC (qa rfl (erg (erc rfl (erc (erD ec53_d _) (erc (erD eci64 _) rfl)))) (qa rfl (erg (erc rfl (erc (erD ec53_d _) (erc (erD eci64 _) rfl)))) eran)) (impl_EqualCounted_s g19) (sd 2 rfl (evdn ?_))))
      rcases cond_some h with ⟨g20, h⟩ | ⟨g20, h⟩
      ·exact qT rfl g20 (rn 1 rfl (ls_ret ((by cases h; cases hr1; exact ⟨.inl rfl, rfl⟩))))
      ·exact qF rfl g20 (ls_skip (hK10 _ (rg (sp 2 rfl (evn (hN _ _ h (okr rfl)))))))
    ·exact qF rfl g9 (ls_exit (kXB1 (Option.some.inj h) _ trivial))
def impl_RowsOfCounted_B1 (a0 : Y75) (rec : Int -> Option (Sum (Unit) (Y42 × Bool))) (y1 : Int) : Option (Sum (Unit) (Y42 × Bool)) := cond (decide (y1 < (List.length a0.2.2 : Int))) (obind (geti a0.2.2 y1) fun e9 => cond (decide (e9 < 0)) (some (.inr ((0, []), false))) (rec (IntKind.i64.wrap (y1 + 1)))) (some (.inl ()))
def impl_RowsOfCounted (a0 : Y75) : Option (Y42 × Bool) := obind (impl_IsValidCounted a0) fun v2 => cond (!v2) (some ((0, []), false)) (obind (loopF (impl_RowsOfCounted_B1 a0) fz 0) fun o1 => (match o1 with
  | .inl _ => (obind (impl_copyRows a0.2.1) fun v12 => some ((a0.1, v12), true))
  | .inr r => some r))
theorem impl_RowsOfCounted_s {a0 : Y75} {r : Y42 × Bool} (h : impl_RowsOfCounted a0 = some r) : SoundAt Tryz.prog 103 [.agg (c76_ddd a0)] (.tup [.agg (c43_oo r.1), .bool r.2]) := by
 unfold impl_RowsOfCounted at h
 refine st lit103 rfl (rn 1 rfl (ls_seq_k fun K1 hK1 => rs (sp 1 rfl (?_))))
 obtain ⟨v2, g3, h⟩ := ob_some h
 refine qC (qa rfl (erg (erc rfl (erc (erD ec53_d _) (erc (erD eci64 _) rfl)))) eran) (impl_IsValidCounted_s g3) (sp 1 rfl (evn ?_))
 rcases cond_some h with ⟨g4, h⟩ | ⟨g4, h⟩
 ·exact qT rfl g4 (rn 1 rfl (ls_ret ((by cases h; exact ⟨.inl rfl, rfl⟩))))
 ·refine qF rfl g4 (ls_skip (hK1 _ (ls_seq_k fun K5 hK5 => rn 1 rfl ?_)))
  obtain ⟨o1, hl, hr1⟩ := ob_some h
  have kXB1 : (.inl ()) = o1 -> Jn K5 [(1, .box [nI a0.1, dL c53_d a0.2.1, dL ci64 a0.2.2]), (2, .box [nI 0, oL 53 c53_o []])] := by
   intro h σ' hk
   subst h
   replace h := hr1
   try dsimp only at h
   refine hK5 _ (lh hk rfl (rd (by kernel_rfl) (sd 4 rfl (?_))))
   obtain ⟨v12, g13, h⟩ := ob_some h
   exact ed rfl (qC (qa rfl (erD ec53_d _) eran) (impl_copyRows_s g13) (sd 3 rfl (evdn (ls_ret ((by cases h; exact ⟨.inl rfl, rfl⟩))))))
  refine ls_rec (fun (y1 : Int) => [(1, .box [nI a0.1, dL c53_d a0.2.1, dL ci64 a0.2.2]), (2, .box [nI 0, oL 53 c53_o []]), (11, dL ci64 a0.2.2), (12, nI (List.length a0.2.2 : Int)), (13, nI y1)]) _ _ _ _ hl (okr rfl) (fun _ => rfl) ?_
  rintro m y1 N h hN
  unfold impl_RowsOfCounted_B1 at h
  refine rn 1 rfl (ls_seq_k fun K6 hK6 => ?_)
  rcases cond_some h with ⟨g7, h⟩ | ⟨g7, h⟩
  ·refine qT rfl g7 (ls_skip (hK6 _ (ls_seq_k fun K8 hK8 => ls_blk (rs ?_))))
   obtain ⟨e9, g10, h⟩ := ob_some h
   refine qI rfl zci64 g10 (sp 2 rfl (evn (rn 1 rfl ?_)))
   rcases cond_some h with ⟨g11, h⟩ | ⟨g11, h⟩
   ·exact qT rfl g11 (rn 1 rfl (ls_ret ((by cases h; cases hr1; exact ⟨.inl rfl, rfl⟩))))
   ·exact qF rfl g11 (ls_skip (hK8 _ (rg (sp 2 rfl (evn (hN _ _ h (okr rfl)))))))
  ·exact qF rfl g7 (ls_exit (kXB1 (Option.some.inj h) _ (okr rfl)))
def impl_ViewRows (a0 : Y77) : Option (Y42 × Bool) := obind (impl_RowsOfCounted a0.2) fun v1 => some (v1.1, v1.2)
theorem impl_ViewRows_s {a0 : Y77} {r : Y42 × Bool} (h : impl_ViewRows a0 = some r) : SoundAt Tryz.prog 50 [.agg (c78_dddddd a0)] (.tup [.agg (c43_oo r.1), .bool r.2]) := by
 unfold impl_ViewRows at h
 refine st lit50 rfl (rn 1 rfl (rs (sp 2 rfl (?_))))
 obtain ⟨v1, g2, h⟩ := ob_some h
 exact qC (qa rfl (erg (erc rfl (erc (erD ec53_d _) (erc (erD eci64 _) rfl)))) eran) (impl_RowsOfCounted_s g2) (sp 4 rfl (evn (ls_ret ((by cases h; exact ⟨.inl rfl, rfl⟩)))))
def impl_WatcherRows (a0 : Y36) (a1 : Int) : Option (Y42 × Bool) := obind (impl_IsValidNotifier a0) fun v2 => cond (!v2) (some ((0, []), false)) (obind (impl_within a1 0 (IntKind.i64.wrap ((List.length a0.2.1 : Int) - 1))) fun v5 => cond (!v5) (some ((0, []), false)) (obind (geti a0.2.1 a1) fun e8 => obind (impl_ViewRows e8) fun v10 => some (v10.1, v10.2)))
theorem impl_WatcherRows_s {a0 : Y36} {a1 : Int} {r : Y42 × Bool} (h : impl_WatcherRows a0 a1 = some r) : SoundAt Tryz.prog 13 [.agg (c37_dddddddddddddd a0), nI a1] (.tup [.agg (c43_oo r.1), .bool r.2]) := by
 unfold impl_WatcherRows at h
 refine st lit13 rfl (rn 1 rfl (ls_seq_k fun K1 hK1 => rs (sp 1 rfl (?_))))
 obtain ⟨v2, g3, h⟩ := ob_some h
 refine qC (qa rfl (erg (erc (erD ec120_dd _) (erc (erD ec78_dddddd _) (erc (erD ec76_ddd _) rfl)))) eran) (impl_IsValidNotifier_s g3) (sp 2 rfl (?_))
 rcases cond_some h with ⟨g4, h⟩ | ⟨g4, h⟩
 ·exact qg 9 g4 rfl (sp 8 rfl (evn (qT rfl rfl (rn 1 rfl (ls_ret ((by cases h; exact ⟨.inl rfl, rfl⟩)))))))
 ·refine qg 9 g4 rfl (sp 5 rfl (?_))
  obtain ⟨v5, g6, h⟩ := ob_some h
  refine oGR rfl rfl (qC (qs rfl (qs rfl (qs rfl eran))) (impl_within_s g6) (sp 2 rfl (evn ?_)))
  rcases cond_some h with ⟨g7, h⟩ | ⟨g7, h⟩
  ·exact qT rfl g7 (rn 1 rfl (qk [4, 5] rfl (ls_ret ((by cases h; exact ⟨.inl rfl, rfl⟩)))))
  ·refine qF rfl g7 (ls_skip (hK1 _ (rs (sp 3 rfl (?_)))))
   obtain ⟨e8, g9, h⟩ := ob_some h
   refine qI rfl zc78_dddddd g9 (sp 1 rfl (?_))
   obtain ⟨v10, g11, h⟩ := ob_some h
   exact qC (qa rfl (erg (erc rfl (erc (erD ec148_d _) (erc (erD eci64 _) (erc rfl (erc (erD ec53_d _) (erc (erD eci64 _) rfl))))))) eran) (impl_ViewRows_s g11) (sp 4 rfl (evn (ls_ret ((by cases h; exact ⟨.inl rfl, rfl⟩)))))
def laws_big (a0 : List Int) : Option (Bool) := some (decide (1048576 < (List.length a0 : Int)))
theorem laws_big_s {a0 : List Int} {r : Bool} (h : laws_big a0 = some r) : SoundAt Tryz.prog 18 [dL cu8 a0] (.bool r) := by
 unfold laws_big at h
 exact st lit18 rfl (rn 2 rfl (ls_ret ((by cases h; exact ⟨.inl rfl, rfl⟩))))
abbrev Y132 := (List Int) × Int × Int
def spec_l1New_B1 (a0 : List Int) (rec : (Int × Int) -> Option (Int)) (s : Int × Int) : Option (Int) := match s with
  | (y1, y2) => cond (decide (y2 < (List.length a0 : Int))) (cond (decide (y2 < 4000)) (obind (geti a0 y2) fun e7 => rec ((andI (IntKind.i64.wrap ((IntKind.i64.wrap ((IntKind.i64.wrap (y1 * 131)) + (IntKind.i64.wrap e7))) + 7)) 1073741823), (IntKind.i64.wrap (y2 + 1)))) (some y1)) (some y1)
def spec_l1New (a0 : List Int) : Option (Y132) := obind (loopF (spec_l1New_B1 a0) fz ((IntKind.i64.wrap (10101 + (List.length a0 : Int))), 0)) fun z2 => some (a0, 0, z2)
theorem spec_l1New_s {a0 : List Int} {r : Y132} (h : spec_l1New a0 = some r) : NewAt Tryz.prog 57 [aL cu8 a0] [aL cu8 r.1, nI r.2.1, nI r.2.2] := by
 unfold spec_l1New at h
 refine stn lit57 rfl rfl (rn 2 rfl (ls_seq_k fun K1 hK1 => rn 1 rfl ?_))
 obtain ⟨o1, hl, hr1⟩ := ob_some h
 have kXB1 : ∀ {z2 : Int}, z2 = o1 -> Jn K1 [(0, aL cu8 a0), (3, nI z2)] := by
  intro z2 h σ' hk
  subst h
  replace h := hr1
  try dsimp only at h
  exact hK1 _ (lh hk rfl (rn 1 rfl (ls_ret ((by cases h; exact ⟨.inl rfl, 31, rfl, rfl⟩)))))
 refine ls_rec (fun (s : Int × Int) => match s with | (y1, y2) => [(0, aL cu8 a0), (3, nI y1), (4, nI y2)]) _ _ _ _ hl (okr rfl) (fun _ => rfl) ?_
 rintro m ⟨y1, y2⟩ N h hN
 unfold spec_l1New_B1 at h
 dsimp only at h
 refine ls_seq_k fun K3 hK3 => rs (sp 5 rfl (?_))
 rcases cond_some h with ⟨g4, h⟩ | ⟨g4, h⟩
 ·refine qg 12 g4 rfl (sp 3 rfl (evn ?_))
  rcases cond_some h with ⟨g5, h⟩ | ⟨g5, h⟩
  ·refine qT rfl g5 (ls_skip (hK3 _ (ls_seq_k fun K6 hK6 => ls_blk (rg (sp 4 rfl (?_))))))
   obtain ⟨e7, g8, h⟩ := ob_some h
   exact qI rfl zcu8 g8 (sp 6 rfl (evn (hK6 _ (rg (sp 3 rfl (evn (hN _ _ h (okr rfl))))))))
  ·exact qF rfl g5 (ls_exit (kXB1 (Option.some.inj h) _ (okr rfl)))
 ·exact qg 12 g4 rfl (sp 3 rfl (evn (qF rfl rfl (ls_exit (kXB1 (Option.some.inj h) _ (okr rfl))))))
def spec_NegateCounted_B1 (a0 : Y75) (rec : ((List Int) × Int) -> Option ((List Int))) (s : (List Int) × Int) : Option ((List Int)) := match s with
  | (y1, y2) => cond (decide (y2 < (List.length a0.2.2 : Int))) (obind (geti a0.2.2 y2) fun e8 => chk (List.length y1 + List.length [IntKind.i64.wrap (0 - e8)] <= lim) (rec ((y1 ++ [IntKind.i64.wrap (0 - e8)]), (IntKind.i64.wrap (y2 + 1))))) (some y1)
def spec_NegateCounted (a0 : Y75) : Option (Y75) := obind (spec_l5Copy (0, a0.2.1)) fun v1 => obind (loopF (spec_NegateCounted_B1 a0) fz (([] : List Int), 0)) fun z4 => some (a0.1, v1.2, z4)
theorem spec_NegateCounted_s {a0 : Y75} {r : Y75} (h : spec_NegateCounted a0 = some r) : SoundAt Tryz.prog 65 [.agg (c76_ddd a0)] (.agg (c76_ooo r)) := by
 unfold spec_NegateCounted at h
 refine st lit65 rfl (rn 1 rfl (rs (sp 3 rfl (?_))))
 obtain ⟨v1, g2, h⟩ := ob_some h
 refine qC (qa rfl (erg (erc rfl (erc (erD ec53_d _) rfl))) eran) (spec_l5Copy_s g2) (sp 2 rfl (evn (rn 1 rfl (ls_seq_k fun K3 hK3 => rn 1 rfl ?_))))
 obtain ⟨o1, hl, hr1⟩ := ob_some h
 have kXB1 : ∀ {z4 : List Int}, z4 = o1 -> Jn K3 [(2, .box [nI 0, oL 53 c53_o [], oL 3 ci64 []]), (4, .box [nI a0.1, oL 53 c53_o v1.2, oL 3 ci64 z4])] := by
  intro z4 h σ' hk
  subst h
  replace h := hr1
  try dsimp only at h
  exact hK3 _ (lh hk rfl (rn 1 rfl (ls_ret ((by cases h; exact ⟨.inl rfl, rfl⟩)))))
 refine ls_rec (fun (s : (List Int) × Int) => match s with | (y1, y2) => [(1, .box [nI a0.1, dL c53_d a0.2.1, dL ci64 a0.2.2]), (2, .box [nI 0, oL 53 c53_o [], oL 3 ci64 []]), (4, .box [nI a0.1, oL 53 c53_o v1.2, oL 3 ci64 y1]), (5, nI y2)]) _ _ _ _ hl (okr rfl) (fun _ => rfl) ?_
 rintro m ⟨y1, y2⟩ N h hN
 unfold spec_NegateCounted_B1 at h
 dsimp only at h
 refine ls_seq_k fun K5 hK5 => rn 1 rfl ?_
 rcases cond_some h with ⟨g6, h⟩ | ⟨g6, h⟩
 ·refine qT rfl g6 (ls_skip (hK5 _ (ls_seq_k fun K7 hK7 => ls_blk (rgd (by kernel_rfl) (sd 5 rfl (?_))))))
  obtain ⟨e8, g9, h⟩ := ob_some h
  refine ed rfl (qI rfl zci64 g9 (sd 2 rfl (ed rfl (qBs ci64 [IntKind.i64.wrap (0 - e8)] rfl rfl rfl zci64 (?_)))))
  obtain ⟨g10, h⟩ := chk_some h
  exact ed rfl (qA ci64 y1 [IntKind.i64.wrap (0 - e8)] rfl rfl (flat_len zci64 [IntKind.i64.wrap (0 - e8)]) rfl g10 (sd 2 rfl (evdn (hK7 _ (rg (sp 3 rfl (evn (hN _ _ h (okr rfl)))))))))
 ·exact qF rfl g6 (ls_exit (kXB1 (Option.some.inj h) _ (okr rfl)))
def c120_oo (x : Y119) : List V := [.str x.1, nI x.2.1, oL 53 c53_o x.2.2]
theorem zc120_oo (x : Y119) : (c120_oo x).length = 3 := rfl
theorem ec120_oo (x : Y119) : erL (c120_oo x) = c120_dd x := (erc rfl (erc rfl (erc (erO ec53_o _) rfl)))
def spec_l6Copy_B1 (a0 : List Y119) (rec : ((List Y119) × Int) -> Option ((List Y119))) (s : (List Y119) × Int) : Option ((List Y119)) := match s with
  | (y1, y2) => cond (decide (y2 < (List.length a0 : Int))) (obind (geti a0 y2) fun e6 => obind (spec_l5Copy e6.2) fun v8 => obind (geti a0 y2) fun e10 => chk (List.length y1 + List.length [(e10.1, v8)] <= lim) (rec ((y1 ++ [(e10.1, v8)]), (IntKind.i64.wrap (y2 + 1))))) (some y1)
def spec_l6Copy (a0 : List Y119) : Option ((List Y119)) := obind (loopF (spec_l6Copy_B1 a0) fz (([] : List Y119), 0)) fun z2 => some z2
theorem spec_l6Copy_s {a0 : List Y119} {r : (List Y119)} (h : spec_l6Copy a0 = some r) : SoundAt Tryz.prog 123 [.agg [dL c120_dd a0]] (.agg [oL 120 c120_oo r]) := by
 unfold spec_l6Copy at h
 refine st lit123 rfl (rn 2 rfl (ls_seq_k fun K1 hK1 => rn 1 rfl ?_))
 obtain ⟨o1, hl, hr1⟩ := ob_some h
 have kXB1 : ∀ {z2 : List Y119}, z2 = o1 -> Jn K1 [(2, .box [oL 120 c120_oo []]), (3, .box [oL 120 c120_oo z2])] := by
  intro z2 h σ' hk
  subst h
  replace h := hr1
  try dsimp only at h
  exact hK1 _ (lh hk rfl (rn 1 rfl (ls_ret ((by cases h; exact ⟨.inl rfl, rfl⟩)))))
 refine ls_rec (fun (s : (List Y119) × Int) => match s with | (y1, y2) => [(1, .box [dL c120_dd a0]), (2, .box [oL 120 c120_oo []]), (3, .box [oL 120 c120_oo y1]), (4, nI y2)]) _ _ _ _ hl (okr rfl) (fun _ => rfl) ?_
 rintro m ⟨y1, y2⟩ N h hN
 unfold spec_l6Copy_B1 at h
 dsimp only at h
 refine ls_seq_k fun K3 hK3 => rn 1 rfl ?_
 rcases cond_some h with ⟨g4, h⟩ | ⟨g4, h⟩
 ·refine qT rfl g4 (ls_skip (hK3 _ (ls_seq_k fun K5 hK5 => ls_blk (rs (sp 3 rfl (?_))))))
  obtain ⟨e6, g7, h⟩ := ob_some h
  refine qI rfl zc120_dd g7 (sp 2 rfl (?_))
  obtain ⟨v8, g9, h⟩ := ob_some h
  refine qC (qa rfl (erg (erc rfl (erc (erD ec53_d _) rfl))) eran) (spec_l5Copy_s g9) (sp 2 rfl (evn (rgd (by kernel_rfl) (sd 5 rfl (?_)))))
  obtain ⟨e10, g11, h⟩ := ob_some h
  refine ed rfl (qI rfl zc120_dd g11 (sd 4 rfl (ed rfl (qBs c120_oo [(e10.1, v8)] rfl rfl rfl zc120_oo (?_)))))
  obtain ⟨g12, h⟩ := chk_some h
  exact ed rfl (qA c120_oo y1 [(e10.1, v8)] rfl rfl (flat_len zc120_oo [(e10.1, v8)]) rfl g12 (sd 2 rfl (evdn (hK5 _ (rg (sp 3 rfl (evn (hN _ _ h (okr rfl)))))))))
 ·exact qF rfl g4 (ls_exit (kXB1 (Option.some.inj h) _ (okr rfl)))
def spec_l7Copy_B1 (a0 : Y54) (rec : ((List Y147) × Int) -> Option ((List Y147))) (s : (List Y147) × Int) : Option ((List Y147)) := match s with
  | (y1, y2) => cond (decide (y2 < (List.length a0.2.1 : Int))) (obind (geti a0.2.1 y2) fun e7 => obind (geti a0.2.1 y2) fun e9 => chk (List.length ([] : List Int) + List.length e9.2 <= lim) (chk (List.length y1 + List.length ([(e7.1, ([] : List Int) ++ e9.2)]) <= lim) (rec ((y1 ++ ([(e7.1, ([] : List Int) ++ e9.2)])), (IntKind.i64.wrap (y2 + 1)))))) (some y1)
def spec_l7Copy (a0 : Y54) : Option (Y54) := chk (List.length ([] : List Int) + List.length a0.2.2 <= lim) (obind (loopF (spec_l7Copy_B1 a0) fz (([] : List Y147), 0)) fun z3 => some (a0.1, z3, ([] : List Int) ++ a0.2.2))
theorem spec_l7Copy_s {a0 : Y54} {r : Y54} (h : spec_l7Copy a0 = some r) : SoundAt Tryz.prog 125 [.agg (c55_ddd a0)] (.agg (c55_ooo r)) := by
 unfold spec_l7Copy at h
 refine st lit125 rfl (rn 1 rfl (rd (by kernel_rfl) (sd 2 rfl (ed rfl (qBs ci64 [] rfl rfl rfl zci64 (sd 2 rfl (?_)))))))
 obtain ⟨g1, h⟩ := chk_some h
 refine ed rfl (qA ci64 ([] : List Int) a0.2.2 rfl rfl (flat_len zci64 a0.2.2) (map_dg (fun _ => rfl) _) g1 (sd 3 rfl (evdn (ls_seq_k fun K2 hK2 => rn 1 rfl ?_))))
 obtain ⟨o1, hl, hr1⟩ := ob_some h
 have kXB1 : ∀ {z3 : List Y147}, z3 = o1 -> Jn K2 [(2, .box [nI 0, oL 148 c148_o [], oL 3 ci64 []]), (3, .box [nI a0.1, oL 148 c148_o z3, oL 3 ci64 (([] : List Int) ++ a0.2.2)])] := by
  intro z3 h σ' hk
  subst h
  replace h := hr1
  try dsimp only at h
  exact hK2 _ (lh hk rfl (rn 1 rfl (ls_ret ((by cases h; exact ⟨.inl rfl, rfl⟩)))))
 refine ls_rec (fun (s : (List Y147) × Int) => match s with | (y1, y2) => [(1, .box [nI a0.1, dL c148_d a0.2.1, dL ci64 a0.2.2]), (2, .box [nI 0, oL 148 c148_o [], oL 3 ci64 []]), (3, .box [nI a0.1, oL 148 c148_o y1, oL 3 ci64 (([] : List Int) ++ a0.2.2)]), (4, nI y2)]) _ _ _ _ hl (okr rfl) (fun _ => rfl) ?_
 rintro m ⟨y1, y2⟩ N h hN
 unfold spec_l7Copy_B1 at h
 dsimp only at h
 refine ls_seq_k fun K4 hK4 => rn 1 rfl ?_
 rcases cond_some h with ⟨g5, h⟩ | ⟨g5, h⟩
 ·refine qT rfl g5 (ls_skip (hK4 _ (ls_seq_k fun K6 hK6 => ls_blk (rgd (by kernel_rfl) (sd 5 rfl (?_))))))
  obtain ⟨e7, g8, h⟩ := ob_some h
  refine ed rfl (qI rfl zc148_d g8 (sd 2 rfl (ed rfl (qBs ci64 [] rfl rfl rfl zci64 (sd 3 rfl (?_))))))
  obtain ⟨e9, g10, h⟩ := ob_some h
  refine ed rfl (qI rfl zc148_d g10 (sd 2 rfl (?_)))
  obtain ⟨g11, h⟩ := chk_some h
  refine ed rfl (qA ci64 ([] : List Int) e9.2 rfl rfl (flat_len zci64 e9.2) (map_dg (fun _ => rfl) _) g11 (sd 1 rfl (ed rfl (qBs c148_o [(e7.1, ([] : List Int) ++ e9.2)] rfl rfl rfl zc148_o (?_)))))
  obtain ⟨g12, h⟩ := chk_some h
  exact ed rfl (qA c148_o y1 ([(e7.1, ([] : List Int) ++ e9.2)]) rfl rfl (flat_len zc148_o ([(e7.1, ([] : List Int) ++ e9.2)])) rfl g12 (sd 2 rfl (evdn (hK6 _ (rg (sp 3 rfl (evn (hN _ _ h (okr rfl)))))))))
 ·exact qF rfl g5 (ls_exit (kXB1 (Option.some.inj h) _ (okr rfl)))
def spec_l39View (a0 : Y77) : Option (Y77) := obind (spec_l7Copy a0.1) fun v1 => obind (spec_NegateCounted a0.2) fun v3 => obind (spec_NegateCounted v3) fun v5 => some (v1, v5)
theorem spec_l39View_s {a0 : Y77} {r : Y77} (h : spec_l39View a0 = some r) : SoundAt Tryz.prog 124 [.agg (c78_dddddd a0)] (.agg (c78_oooooo r)) := by
 unfold spec_l39View at h
 refine st lit124 rfl (rn 1 rfl (rd (by kernel_rfl) (sd 2 rfl (?_))))
 obtain ⟨v1, g2, h⟩ := ob_some h
 refine ed rfl (qC (qa rfl (erg (erc rfl (erc (erD ec148_d _) (erc (erD eci64 _) rfl)))) eran) (spec_l7Copy_s g2) (sd 2 rfl (?_)))
 obtain ⟨v3, g4, h⟩ := ob_some h
 refine ed rfl (qC (qa rfl (erg (erc rfl (erc (erD ec53_d _) (erc (erD eci64 _) rfl)))) eran) (spec_NegateCounted_s g4) (?_))
 obtain ⟨v5, g6, h⟩ := ob_some h
 exact ed rfl (qC (qa rfl (erg (erc rfl (erc (erO ec53_o _) (erc (erO eci64 _) rfl)))) eran) (spec_NegateCounted_s g6) (sd 2 rfl (evdn (ls_ret ((by cases h; exact ⟨.inl rfl, rfl⟩))))))
def c37_oooooooooooooo (x : Y36) : List V := [oL 120 c120_oo x.1, oL 78 c78_oooooo x.2.1, oL 76 c76_ooo x.2.2]
theorem zc37_oooooooooooooo (x : Y36) : (c37_oooooooooooooo x).length = 3 := rfl
theorem ec37_oooooooooooooo (x : Y36) : erL (c37_oooooooooooooo x) = c37_dddddddddddddd x := (erc (erO ec120_oo _) (erc (erO ec78_oooooo _) (erc (erO ec76_ooo _) rfl)))
def spec_l39Copy_B1 (a0 : Y36) (rec : ((List Y77) × Int) -> Option ((List Y77))) (s : (List Y77) × Int) : Option ((List Y77)) := match s with
  | (y1, y2) => cond (decide (y2 < (List.length a0.2.1 : Int))) (obind (geti a0.2.1 y2) fun e8 => obind (spec_l39View e8) fun v10 => chk (List.length y1 + List.length [v10] <= lim) (rec ((y1 ++ [v10]), (IntKind.i64.wrap (y2 + 1))))) (some y1)
def spec_l39Copy_B2 (a0 : Y36) (rec : ((List Y75) × Int) -> Option ((List Y75))) (s : (List Y75) × Int) : Option ((List Y75)) := match s with
  | (y3, y4) => cond (decide (y4 < (List.length a0.2.2 : Int))) (obind (geti a0.2.2 y4) fun e18 => obind (spec_NegateCounted e18) fun v20 => obind (spec_NegateCounted v20) fun v22 => chk (List.length y3 + List.length [v22] <= lim) (rec ((y3 ++ [v22]), (IntKind.i64.wrap (y4 + 1))))) (some y3)
def spec_l39Copy (a0 : Y36) : Option (Y36) := obind (spec_l6Copy a0.1) fun v1 => obind (loopF (spec_l39Copy_B1 a0) fz (([] : List Y77), 0)) fun z4 => obind (loopF (spec_l39Copy_B2 a0) fz (([] : List Y75), 0)) fun z14 => some (v1, z4, z14)
theorem spec_l39Copy_s {a0 : Y36} {r : Y36} (h : spec_l39Copy a0 = some r) : SoundAt Tryz.prog 63 [.agg (c37_dddddddddddddd a0)] (.agg (c37_oooooooooooooo r)) := by
 unfold spec_l39Copy at h
 refine st lit63 rfl (rn 1 rfl (rs (sp 2 rfl (?_))))
 obtain ⟨v1, g2, h⟩ := ob_some h
 refine qC (qa rfl (erg (erc (erD ec120_dd _) rfl)) eran) (spec_l6Copy_s g2) (sp 2 rfl (evn (rn 1 rfl (ls_seq_k fun K3 hK3 => rn 1 rfl ?_))))
 obtain ⟨o1, hl, hr1⟩ := ob_some h
 have kXB1 : ∀ {z4 : List Y77}, z4 = o1 -> Jn K3 [(1, .box [dL c120_dd a0.1, dL c78_dddddd a0.2.1, dL c76_ddd a0.2.2]), (2, .box [oL 120 c120_oo [], oL 78 c78_oooooo [], oL 76 c76_ooo []]), (4, .box [oL 120 c120_oo v1, oL 78 c78_oooooo z4, oL 76 c76_ooo []])] := by
  intro z4 h σ' hk
  subst h
  replace h := hr1
  try dsimp only at h
  refine hK3 _ (lh hk rfl (ls_seq_k fun K13 hK13 => rn 1 rfl ?_))
  obtain ⟨o2, hl, hr2⟩ := ob_some h
  have kXB2 : ∀ {z14 : List Y75}, z14 = o2 -> Jn K13 [(2, .box [oL 120 c120_oo [], oL 78 c78_oooooo [], oL 76 c76_ooo []]), (4, .box [oL 120 c120_oo v1, oL 78 c78_oooooo z4, oL 76 c76_ooo z14])] := by
   intro z14 h σ' hk
   subst h
   replace h := hr2
   try dsimp only at h
   exact hK13 _ (lh hk rfl (rn 1 rfl (ls_ret ((by cases h; exact ⟨.inl rfl, rfl⟩)))))
  refine ls_rec (fun (s : (List Y75) × Int) => match s with | (y3, y4) => [(1, .box [dL c120_dd a0.1, dL c78_dddddd a0.2.1, dL c76_ddd a0.2.2]), (2, .box [oL 120 c120_oo [], oL 78 c78_oooooo [], oL 76 c76_ooo []]), (4, .box [oL 120 c120_oo v1, oL 78 c78_oooooo z4, oL 76 c76_ooo y3]), (6, nI y4)]) _ _ _ _ hl (okr rfl) (fun _ => rfl) ?_
  rintro m ⟨y3, y4⟩ N h hN
  unfold spec_l39Copy_B2 at h
  dsimp only at h
  refine ls_seq_k fun K15 hK15 => rn 1 rfl ?_
  rcases cond_some h with ⟨g16, h⟩ | ⟨g16, h⟩
  ·refine qT rfl g16 (ls_skip (hK15 _ (ls_seq_k fun K17 hK17 => ls_blk (rgd (by kernel_rfl) (sd 5 rfl (?_))))))
   obtain ⟨e18, g19, h⟩ := ob_some h
   refine ed rfl (qI rfl zc76_ddd g19 (sd 1 rfl (?_)))
   obtain ⟨v20, g21, h⟩ := ob_some h
   refine ed rfl (qC (qa rfl (erg (erc rfl (erc (erD ec53_d _) (erc (erD eci64 _) rfl)))) eran) (spec_NegateCounted_s g21) (?_))
   obtain ⟨v22, g23, h⟩ := ob_some h
   refine ed rfl (qC (qa rfl (erg (erc rfl (erc (erO ec53_o _) (erc (erO eci64 _) rfl)))) eran) (spec_NegateCounted_s g23) (ed rfl (qBs c76_ooo [v22] rfl rfl rfl zc76_ooo (?_))))
   obtain ⟨g24, h⟩ := chk_some h
   exact ed rfl (qA c76_ooo y3 [v22] rfl rfl (flat_len zc76_ooo [v22]) rfl g24 (sd 2 rfl (evdn (hK17 _ (rg (sp 3 rfl (evn (hN _ _ h (okr rfl)))))))))
  ·exact qF rfl g16 (ls_exit (kXB2 (Option.some.inj h) _ (okr rfl)))
 refine ls_rec (fun (s : (List Y77) × Int) => match s with | (y1, y2) => [(1, .box [dL c120_dd a0.1, dL c78_dddddd a0.2.1, dL c76_ddd a0.2.2]), (2, .box [oL 120 c120_oo [], oL 78 c78_oooooo [], oL 76 c76_ooo []]), (4, .box [oL 120 c120_oo v1, oL 78 c78_oooooo y1, oL 76 c76_ooo []]), (5, nI y2)]) _ _ _ _ hl (okr rfl) (fun _ => rfl) ?_
 rintro m ⟨y1, y2⟩ N h hN
 unfold spec_l39Copy_B1 at h
 dsimp only at h
 refine ls_seq_k fun K5 hK5 => rn 1 rfl ?_
 rcases cond_some h with ⟨g6, h⟩ | ⟨g6, h⟩
 ·refine qT rfl g6 (ls_skip (hK5 _ (ls_seq_k fun K7 hK7 => ls_blk (rgd (by kernel_rfl) (sd 5 rfl (?_))))))
  obtain ⟨e8, g9, h⟩ := ob_some h
  refine ed rfl (qI rfl zc78_dddddd g9 (sd 1 rfl (?_)))
  obtain ⟨v10, g11, h⟩ := ob_some h
  refine ed rfl (qC (qa rfl (erg (erc rfl (erc (erD ec148_d _) (erc (erD eci64 _) (erc rfl (erc (erD ec53_d _) (erc (erD eci64 _) rfl))))))) eran) (spec_l39View_s g11) (ed rfl (qBs c78_oooooo [v10] rfl rfl rfl zc78_oooooo (?_))))
  obtain ⟨g12, h⟩ := chk_some h
  exact ed rfl (qA c78_oooooo y1 [v10] rfl rfl (flat_len zc78_oooooo [v10]) rfl g12 (sd 2 rfl (evdn (hK7 _ (rg (sp 3 rfl (evn (hN _ _ h (okr rfl)))))))))
 ·exact qF rfl g6 (ls_exit (kXB1 (Option.some.inj h) _ (okr rfl)))
def spec_NewView (a0 : List Y119) (a1 : Y54) : Option (Y77 × Bool) := obind (spec_l28Z a0 a1) fun v1 => cond (!v1.2) (some (((0, [], []), (0, [], [])), false)) (obind (spec_l7Copy a1) fun v5 => some ((v5, v1.1), true))
theorem spec_NewView_s {a0 : List Y119} {a1 : Y54} {r : Y77 × Bool} (h : spec_NewView a0 a1 = some r) : SoundAt Tryz.prog 64 [.agg [dL c120_dd a0], .agg (c55_ddd a1)] (.tup [.agg (c78_oooooo r.1), .bool r.2]) := by
 unfold spec_NewView at h
 refine st lit64 rfl (rn 1 rfl (rs (sp 2 rfl (?_))))
 obtain ⟨v1, g2, h⟩ := ob_some h
 refine qC (qa rfl (erg (erc (erD ec120_dd _) rfl)) (qa rfl (erg (erc rfl (erc (erD ec148_d _) (erc (erD eci64 _) rfl)))) eran)) (spec_l28Z_s g2) (sp 6 rfl (evn (ls_seq_k fun K3 hK3 => rn 1 rfl ?_)))
 rcases cond_some h with ⟨g4, h⟩ | ⟨g4, h⟩
 ·exact qT rfl g4 (rn 1 rfl (ls_ret ((by cases h; exact ⟨.inl rfl, rfl⟩))))
 ·refine qF rfl g4 (ls_skip (hK3 _ (rd (by kernel_rfl) (sd 1 rfl (?_)))))
  obtain ⟨v5, g6, h⟩ := ob_some h
  exact ed rfl (qC (qa rfl (erg (erc rfl (erc (erD ec148_d _) (erc (erD eci64 _) rfl)))) eran) (spec_l7Copy_s g6) (sd 4 rfl (evdn (ls_ret ((by cases h; exact ⟨.inl rfl, rfl⟩))))))
def spec_AddWatcher (a0 : Y36) (a1 : Y54) : Option (Y36 × Bool) := obind (spec_l39Copy a0) fun v1 => obind (spec_NewView a0.1 a1) fun v3 => obind (spec_IsValidNotifier a0) fun v6 => cond (!v6) (some (v1, false)) (cond (!v3.2) (some (v1, false)) (cond ((List.length a0.2.1 : Int) == 4) (some (v1, false)) (chk (List.length v1.2.1 + List.length [v3.1] <= lim) (obind (spec_NegateCounted v3.1.2) fun v12 => obind (spec_NegateCounted v12) fun v14 => chk (List.length v1.2.2 + List.length [v14] <= lim) (some ((v1.1, v1.2.1 ++ [v3.1], v1.2.2 ++ [v14]), true))))))
theorem spec_AddWatcher_s {a0 : Y36} {a1 : Y54} {r : Y36 × Bool} (h : spec_AddWatcher a0 a1 = some r) : SoundAt Tryz.prog 21 [.agg (c37_dddddddddddddd a0), .agg (c55_ddd a1)] (.tup [.agg (c37_oooooooooooooo r.1), .bool r.2]) := by
 unfold spec_AddWatcher at h
 refine st lit21 rfl (rn 1 rfl (rs (sp 1 rfl (?_))))
 obtain ⟨v1, g2, h⟩ := ob_some h
 refine qC (qa rfl (erg (erc (erD ec120_dd _) (erc (erD ec78_dddddd _) (erc (erD ec76_ddd _) rfl)))) eran) (spec_l39Copy_s g2) (sp 2 rfl (evn (rs (sp 3 rfl (?_)))))
 obtain ⟨v3, g4, h⟩ := ob_some h
 refine qC (qa rfl (erg (erc (erD ec120_dd _) rfl)) (qa rfl (erg (erc rfl (erc (erD ec148_d _) (erc (erD eci64 _) rfl)))) eran)) (spec_NewView_s g4) (sp 6 rfl (evn (ls_seq_k fun K5 hK5 => rs (sp 1 rfl (?_)))))
 obtain ⟨v6, g7, h⟩ := ob_some h
 refine qC (qa rfl (erg (erc (erD ec120_dd _) (erc (erD ec78_dddddd _) (erc (erD ec76_ddd _) rfl)))) eran) (spec_IsValidNotifier_s g7) (sp 2 rfl (?_))
 rcases cond_some h with ⟨g8, h⟩ | ⟨g8, h⟩
 ·exact qg 21 g8 rfl (sp 9 rfl (evn (qT rfl rfl (rn 1 rfl (qk [4, 5] rfl (ls_ret ((by cases h; exact ⟨.inl rfl, rfl⟩))))))))
 ·refine qg 21 g8 rfl (sp 4 rfl (?_))
  rcases cond_some h with ⟨g9, h⟩ | ⟨g9, h⟩
  ·exact qg 25 g9 rfl (sp 5 rfl (evn (qT rfl rfl (rn 1 rfl (ls_ret ((by cases h; exact ⟨.inl rfl, rfl⟩)))))))
  ·refine qg 25 g9 rfl (sp 5 rfl (evn ?_))
   rcases cond_some h with ⟨g10, h⟩ | ⟨g10, h⟩
   ·exact qT rfl g10 (rn 1 rfl (ls_ret ((by cases h; exact ⟨.inl rfl, rfl⟩))))
   ·refine qF rfl g10 (ls_skip (hK5 _ (rs (sp 3 rfl (qBs c78_oooooo [v3.1] rfl rfl rfl zc78_oooooo (?_))))))
    obtain ⟨g11, h⟩ := chk_some h
    refine qA c78_oooooo v1.2.1 [v3.1] rfl rfl (flat_len zc78_oooooo [v3.1]) rfl g11 (sp 2 rfl (evn (qk [4, 6, 7] rfl (rd (by kernel_rfl) (sd 4 rfl (?_))))))
    obtain ⟨v12, g13, h⟩ := ob_some h
    refine ed rfl (qC (qa rfl (erg (erc rfl (erc (erD ec53_o _) (erc (erD eci64 _) rfl)))) eran) (spec_NegateCounted_s g13) (?_))
    obtain ⟨v14, g15, h⟩ := ob_some h
    refine ed rfl (qC (qa rfl (erg (erc rfl (erc (erO ec53_o _) (erc (erO eci64 _) rfl)))) eran) (spec_NegateCounted_s g15) (ed rfl (qBs c76_ooo [v14] rfl rfl rfl zc76_ooo (?_))))
    obtain ⟨g16, h⟩ := chk_some h
    exact ed rfl (qA c76_ooo v1.2.2 [v14] rfl rfl (flat_len zc76_ooo [v14]) rfl g16 (sd 2 rfl (evdn (rn 1 rfl (ls_ret ((by cases h; exact ⟨.inl rfl, rfl⟩)))))))
def spec_NewNotifier (a0 : List Y119) : Option (Y36 × Bool) := obind (spec_IsValidDatabase a0) fun v2 => cond (!v2) (some (([], [], []), false)) (obind (spec_l6Copy a0) fun v5 => some ((v5, [], []), true))
theorem spec_NewNotifier_s {a0 : List Y119} {r : Y36 × Bool} (h : spec_NewNotifier a0 = some r) : SoundAt Tryz.prog 106 [.agg [dL c120_dd a0]] (.tup [.agg (c37_oooooooooooooo r.1), .bool r.2]) := by
 unfold spec_NewNotifier at h
 refine st lit106 rfl (rn 1 rfl (ls_seq_k fun K1 hK1 => rs (sp 1 rfl (?_))))
 obtain ⟨v2, g3, h⟩ := ob_some h
 refine qC (qa rfl (erg (erc (erD ec120_dd _) rfl)) eran) (spec_IsValidDatabase_s g3) (sp 1 rfl (evn ?_))
 rcases cond_some h with ⟨g4, h⟩ | ⟨g4, h⟩
 ·exact qT rfl g4 (rn 1 rfl (ls_ret ((by cases h; exact ⟨.inl rfl, rfl⟩))))
 ·refine qF rfl g4 (ls_skip (hK1 _ (rs (sp 1 rfl (?_)))))
  obtain ⟨v5, g6, h⟩ := ob_some h
  exact qC (qa rfl (erg (erc (erD ec120_dd _) rfl)) eran) (spec_l6Copy_s g6) (sp 2 rfl (evn (rn 1 rfl (ls_ret ((by cases h; exact ⟨.inl rfl, rfl⟩))))))
def spec_l1Byte_J1 (a0 : Y132) (x2 : Int) (x3 : Int) : Option (Int × Y132) := some (x3, (a0.1, x2, IntKind.i64.wrap ((IntKind.i64.wrap (a0.2.2 * 6364136223846793005)) + 1442695040888963407)))
def spec_l1Byte (a0 : Y132) : Option (Int × Y132) := cond (decide (a0.2.1 < (List.length a0.1 : Int))) (obind (geti a0.1 a0.2.1) fun e5 => spec_l1Byte_J1 a0 (IntKind.i64.wrap (a0.2.1 + 1)) (andI (IntKind.i64.wrap ((andI (xorI (shrI (IntKind.i64.wrap ((IntKind.i64.wrap (a0.2.2 * 6364136223846793005)) + 1442695040888963407)) 33) (shrI (IntKind.i64.wrap ((IntKind.i64.wrap (a0.2.2 * 6364136223846793005)) + 1442695040888963407)) 45)) 255) + (IntKind.i64.wrap e5))) 255)) (spec_l1Byte_J1 a0 a0.2.1 (andI (xorI (shrI (IntKind.i64.wrap ((IntKind.i64.wrap (a0.2.2 * 6364136223846793005)) + 1442695040888963407)) 33) (shrI (IntKind.i64.wrap ((IntKind.i64.wrap (a0.2.2 * 6364136223846793005)) + 1442695040888963407)) 45)) 255))
theorem spec_l1Byte_s {a0 : Y132} {r : Int × Y132} (h : spec_l1Byte a0 = some r) : PtrAt Tryz.prog 153 [aL cu8 a0.1, nI a0.2.1, nI a0.2.2] [] [aL cu8 r.2.1, nI r.2.2.1, nI r.2.2.2] (nI r.1) := by
 unfold spec_l1Byte at h
 refine stp lit153 rfl (rn 2 rfl (rd (by kernel_rfl) (sd 13 rfl (evdn (ls_seq_k fun K1 hK1 => rd (by kernel_rfl) (sd 10 rfl (evdn ?_)))))))
 have kJ1 : ∀ {x2 : Int} {x3 : Int}, spec_l1Byte_J1 a0 x2 x3 = some r -> Jn K1 [(0, .box [aL cu8 a0.1, nI x2, nI (IntKind.i64.wrap ((IntKind.i64.wrap (a0.2.2 * 6364136223846793005)) + 1442695040888963407))]), (3, nI x3)] := by
  intro x2 x3 h σ' hk
  unfold spec_l1Byte_J1 at h
  exact hK1 _ (lh hk rfl (rn 1 rfl (ls_ret ((by cases h; exact ⟨.inl rfl, rfl, rfl⟩)))))
 rcases cond_some h with ⟨g4, h⟩ | ⟨g4, h⟩
 ·refine qT rfl g4 (rd (by kernel_rfl) (sd 9 rfl (?_)))
  obtain ⟨e5, g6, h⟩ := ob_some h
  exact ed rfl (qI rfl zcu8 g6 (sd 5 rfl (evdn (rg (sp 9 rfl (evn (kJ1 h _ (okr rfl))))))))
 ·exact qF rfl g4 (ls_skip (kJ1 h _ (okr rfl)))
def c133_d (x : Y132) : List V := [dL cu8 x.1, nI x.2.1, nI x.2.2]
theorem zc133_d (x : Y132) : (c133_d x).length = 3 := rfl
theorem ec133_d (x : Y132) : erL (c133_d x) = c133_d x := (erc (erD ecu8 _) (erc rfl (erc rfl rfl)))
def c133_a (x : Y132) : List V := [aL cu8 x.1, nI x.2.1, nI x.2.2]
theorem zc133_a (x : Y132) : (c133_a x).length = 3 := rfl
theorem ec133_a (x : Y132) : erL (c133_a x) = c133_d x := (erc (erG ecu8 _) (erc rfl (erc rfl rfl)))
def spec_l1Below (a0 : Y132) (a1 : Int) : Option (Int × Y132) := cond (decide (a1 <= 0)) (some (0, a0)) (cond (decide (a1 <= 256)) (obind (spec_l1Byte a0) fun v5 => chk (a1 ≠ 0) (some (Int.tmod v5.1 a1, v5.2))) (obind (spec_l1Byte a0) fun v8 => obind (spec_l1Byte v8.2) fun v10 => obind (spec_l1Byte v10.2) fun v12 => obind (spec_l1Byte v12.2) fun v14 => chk (a1 ≠ 0) (some (Int.tmod (IntKind.i64.wrap ((IntKind.i64.wrap ((IntKind.i64.wrap ((IntKind.i64.wrap (v8.1 * 16777216)) + (IntKind.i64.wrap (v10.1 * 65536)))) + (IntKind.i64.wrap (v12.1 * 256)))) + v14.1)) a1, v14.2))))
theorem spec_l1Below_s {a0 : Y132} {a1 : Int} {r : Int × Y132} (h : spec_l1Below a0 a1 = some r) : PtrAt Tryz.prog 108 [aL cu8 a0.1, nI a0.2.1, nI a0.2.2] [nI a1] [aL cu8 r.2.1, nI r.2.2.1, nI r.2.2.2] (nI r.1) := by
 unfold spec_l1Below at h
 refine stp lit108 rfl (rn 1 rfl (ls_seq_k fun K1 hK1 => rn 1 rfl ?_))
 rcases cond_some h with ⟨g2, h⟩ | ⟨g2, h⟩
 ·exact qT rfl g2 (rn 1 rfl (ls_ret ((by cases h; exact ⟨.inl rfl, rfl, rfl⟩))))
 ·refine qF rfl g2 (ls_skip (hK1 _ (ls_seq_k fun K3 hK3 => rn 1 rfl ?_)))
  rcases cond_some h with ⟨g4, h⟩ | ⟨g4, h⟩
  ·refine qT rfl g4 (rs (sp 1 rfl (?_)))
   obtain ⟨v5, g6, h⟩ := ob_some h
   refine qP rfl rfl rfl rfl eran (spec_l1Byte_s g6) (sp 1 rfl (?_))
   obtain ⟨g7, h⟩ := chk_some h
   exact qB rfl ⟨rfl, g7⟩ rfl (sp 1 rfl (evn (ls_ret ((by cases h; exact ⟨.inl rfl, rfl, rfl⟩)))))
  ·refine qF rfl g4 (ls_skip (hK3 _ (rs (sp 1 rfl (?_)))))
   obtain ⟨v8, g9, h⟩ := ob_some h
   refine qP rfl rfl rfl rfl eran (spec_l1Byte_s g9) (sp 1 rfl (evn (qk [0, 1, 5] rfl (rs (sp 1 rfl (?_))))))
   obtain ⟨v10, g11, h⟩ := ob_some h
   refine qP rfl rfl rfl rfl eran (spec_l1Byte_s g11) (sp 1 rfl (evn (rs (sp 1 rfl (?_)))))
   obtain ⟨v12, g13, h⟩ := ob_some h
   refine qP rfl rfl rfl rfl eran (spec_l1Byte_s g13) (sp 1 rfl (evn (rs (sp 1 rfl (?_)))))
   obtain ⟨v14, g15, h⟩ := ob_some h
   refine qP rfl rfl rfl rfl eran (spec_l1Byte_s g15) (sp 1 rfl (evn (rs (sp 11 rfl (?_)))))
   obtain ⟨g16, h⟩ := chk_some h
   exact qB rfl ⟨rfl, g16⟩ rfl (sp 1 rfl (evn (ls_ret ((by cases h; exact ⟨.inl rfl, rfl, rfl⟩)))))
def spec_l1Once (a0 : Y132) (a1 : Int) : Option (Bool × Y132) := obind (spec_l1Below a0 a1) fun v1 => some ((v1.1 == 0), v1.2)
theorem spec_l1Once_s {a0 : Y132} {a1 : Int} {r : Bool × Y132} (h : spec_l1Once a0 a1 = some r) : PtrAt Tryz.prog 110 [aL cu8 a0.1, nI a0.2.1, nI a0.2.2] [nI a1] [aL cu8 r.2.1, nI r.2.2.1, nI r.2.2.2] (.bool r.1) := by
 unfold spec_l1Once at h
 refine stp lit110 rfl (rn 1 rfl (rs (sp 2 rfl (?_))))
 obtain ⟨v1, g2, h⟩ := ob_some h
 exact qP rfl rfl rfl rfl (qs rfl eran) (spec_l1Below_s g2) (sp 2 rfl (evn (ls_ret ((by cases h; exact ⟨.inl rfl, rfl, rfl⟩)))))
def spec_l1PickInt (a0 : Y132) (a1 : List Int) : Option (Int × Y132) := obind (spec_l1Below a0 (List.length a1 : Int)) fun v1 => obind (geti a1 v1.1) fun e3 => some (e3, v1.2)
theorem spec_l1PickInt_s {a0 : Y132} {a1 : List Int} {r : Int × Y132} (h : spec_l1PickInt a0 a1 = some r) : PtrAt Tryz.prog 114 [aL cu8 a0.1, nI a0.2.1, nI a0.2.2] [dL ci64 a1] [aL cu8 r.2.1, nI r.2.2.1, nI r.2.2.2] (nI r.1) := by
 unfold spec_l1PickInt at h
 refine stp lit114 rfl (rn 1 rfl (rs (sp 4 rfl (?_))))
 obtain ⟨v1, g2, h⟩ := ob_some h
 refine qP rfl rfl rfl rfl (qs rfl eran) (spec_l1Below_s g2) (?_)
 obtain ⟨e3, g4, h⟩ := ob_some h
 exact qI rfl zci64 g4 (sp 2 rfl (evn (ls_ret ((by cases h; exact ⟨.inl rfl, rfl, rfl⟩)))))
def spec_l4Row_B1 (a1 : Int) (a2 : Int) (rec : ((List Int) × Int × Int × (List Int)) -> Option ((List Int) × Int × Int × (List Int))) (s : (List Int) × Int × Int × (List Int)) : Option ((List Int) × Int × Int × (List Int)) := match s with
  | (y1, y2, y3, y4) => cond (decide ((List.length y4 : Int) < a1)) (obind (spec_l1Below (y1, y2, y3) a2) fun v8 => chk (List.length y4 + List.length [v8.1] <= lim) (rec (v8.2.1, v8.2.2.1, v8.2.2.2, (y4 ++ [v8.1])))) (some (y1, y2, y3, y4))
def spec_l4Row (a0 : Y132) (a1 : Int) (a2 : Int) : Option ((List Int) × Y132) := obind (loopF (spec_l4Row_B1 a1 a2) fz (a0.1, a0.2.1, a0.2.2, ([] : List Int))) fun o1 => (match o1 with
  | (z2, z3, z4, z5) => (some (z5, (z2, z3, z4))))
theorem spec_l4Row_s {a0 : Y132} {a1 : Int} {a2 : Int} {r : (List Int) × Y132} (h : spec_l4Row a0 a1 a2 = some r) : PtrAt Tryz.prog 181 [aL cu8 a0.1, nI a0.2.1, nI a0.2.2] [nI a1, nI a2] [aL cu8 r.2.1, nI r.2.2.1, nI r.2.2.2] (oL 3 ci64 r.1) := by
 unfold spec_l4Row at h
 refine stp lit181 rfl (rn 1 rfl (rs (qBs ci64 [] rfl rfl rfl zci64 (sp 1 rfl (evn (ls_seq_k fun K1 hK1 => ?_))))))
 obtain ⟨o1, hl, hr1⟩ := ob_some h
 have kXB1 : ∀ {z2 : List Int} {z3 : Int} {z4 : Int} {z5 : List Int}, (z2, z3, z4, z5) = o1 -> Jn K1 [(0, .box [aL cu8 z2, nI z3, nI z4]), (7, oL 3 ci64 z5)] := by
  intro z2 z3 z4 z5 h σ' hk
  subst h
  replace h := hr1
  try dsimp only at h
  exact hK1 _ (lh hk rfl (rn 1 rfl (ls_ret ((by cases h; exact ⟨.inl rfl, rfl, rfl⟩)))))
 refine ls_rec (fun (s : (List Int) × Int × Int × (List Int)) => match s with | (y1, y2, y3, y4) => [(0, .box [aL cu8 y1, nI y2, nI y3]), (1, nI a1), (2, nI a2), (7, oL 3 ci64 y4)]) _ _ _ _ hl (okr rfl) (fun _ => rfl) ?_
 rintro m ⟨y1, y2, y3, y4⟩ N h hN
 unfold spec_l4Row_B1 at h
 dsimp only at h
 refine ls_seq_k fun K6 hK6 => rn 1 rfl ?_
 rcases cond_some h with ⟨g7, h⟩ | ⟨g7, h⟩
 ·refine qT rfl g7 (ls_skip (hK6 _ (ls_blk (rg (sp 3 rfl (?_))))))
  obtain ⟨v8, g9, h⟩ := ob_some h
  refine qP rfl rfl rfl rfl (qs rfl eran) (spec_l1Below_s g9) (qBs ci64 [v8.1] rfl rfl rfl zci64 (?_))
  obtain ⟨g10, h⟩ := chk_some h
  exact qA ci64 y4 [v8.1] rfl rfl (flat_len zci64 [v8.1]) rfl g10 (sp 1 rfl (evn (hN _ _ h (okr rfl))))
 ·exact qF rfl g7 (ls_exit (kXB1 (Option.some.inj h) _ (okr rfl)))
def spec_l5Rel_B1 (a1 : Int) (a3 : Int) (rec : ((List Int) × Int × Int × (List (List Int)) × Int) -> Option ((List Int) × Int × Int × (List (List Int)))) (s : (List Int) × Int × Int × (List (List Int)) × Int) : Option ((List Int) × Int × Int × (List (List Int))) := match s with
  | (y1, y2, y3, y4, y5) => cond (decide (0 < y5)) (obind (spec_l4Row (y1, y2, y3) a1 a3) fun v11 => chk (List.length y4 + List.length [v11.1] <= lim) (rec (v11.2.1, v11.2.2.1, v11.2.2.2, (y4 ++ [v11.1]), (IntKind.i64.wrap (y5 - 1))))) (some (y1, y2, y3, y4))
def spec_l5Rel (a0 : Y132) (a1 : Int) (a2 : Int) (a3 : Int) : Option (Y42 × Y132) := obind (spec_l1Below a0 (IntKind.i64.wrap (a2 + 1))) fun v2 => obind (loopF (spec_l5Rel_B1 a1 a3) fz (v2.2.1, v2.2.2.1, v2.2.2.2, ([] : List (List Int)), v2.1)) fun o1 => (match o1 with
  | (z4, z5, z6, z7) => (obind (spec_NewRelation a1 z7) fun v14 => some (v14.1, (z4, z5, z6))))
theorem spec_l5Rel_s {a0 : Y132} {a1 : Int} {a2 : Int} {a3 : Int} {r : Y42 × Y132} (h : spec_l5Rel a0 a1 a2 a3 = some r) : PtrAt Tryz.prog 152 [aL cu8 a0.1, nI a0.2.1, nI a0.2.2] [nI a1, nI a2, nI a3] [aL cu8 r.2.1, nI r.2.2.1, nI r.2.2.2] (.agg (c43_oo r.1)) := by
 unfold spec_l5Rel at h
 refine stp lit152 rfl (rn 1 rfl (rs (qBs c53_o [] rfl rfl rfl zc53_o (sp 1 rfl (evn (ls_seq_k fun K1 hK1 => rs (sp 3 rfl (?_))))))))
 obtain ⟨v2, g3, h⟩ := ob_some h
 refine qP rfl rfl rfl rfl (qs rfl eran) (spec_l1Below_s g3) (sp 1 rfl (evn ?_))
 obtain ⟨o1, hl, hr1⟩ := ob_some h
 have kXB1 : ∀ {z4 : List Int} {z5 : Int} {z6 : Int} {z7 : List (List Int)}, (z4, z5, z6, z7) = o1 -> Jn K1 [(0, .box [aL cu8 z4, nI z5, nI z6]), (1, nI a1), (8, .box [nI 0, oL 53 c53_o []]), (9, oL 53 c53_o z7)] := by
  intro z4 z5 z6 z7 h σ' hk
  subst h
  replace h := hr1
  try dsimp only at h
  refine hK1 _ (lh hk rfl (rs (sp 2 rfl (?_))))
  obtain ⟨v14, g15, h⟩ := ob_some h
  exact qC (qs rfl (qa rfl (erD ec53_o _) eran)) (spec_NewRelation_s g15) (sp 6 rfl (evn (rn 1 rfl (ls_ret ((by cases h; exact ⟨.inl rfl, rfl, rfl⟩))))))
 refine ls_rec (fun (s : (List Int) × Int × Int × (List (List Int)) × Int) => match s with | (y1, y2, y3, y4, y5) => [(0, .box [aL cu8 y1, nI y2, nI y3]), (1, nI a1), (3, nI a3), (8, .box [nI 0, oL 53 c53_o []]), (9, oL 53 c53_o y4), (10, nI y5)]) _ _ _ _ hl (okr rfl) (fun _ => rfl) ?_
 rintro m ⟨y1, y2, y3, y4, y5⟩ N h hN
 unfold spec_l5Rel_B1 at h
 dsimp only at h
 refine ls_seq_k fun K8 hK8 => rn 1 rfl ?_
 rcases cond_some h with ⟨g9, h⟩ | ⟨g9, h⟩
 ·refine qT rfl g9 (ls_skip (hK8 _ (ls_seq_k fun K10 hK10 => ls_blk (rg (sp 4 rfl (?_))))))
  obtain ⟨v11, g12, h⟩ := ob_some h
  refine qP rfl rfl rfl rfl (qs rfl (qs rfl eran)) (spec_l4Row_s g12) (qBs c53_o [v11.1] rfl rfl rfl zc53_o (?_))
  obtain ⟨g13, h⟩ := chk_some h
  exact qA c53_o y4 [v11.1] rfl rfl (flat_len zc53_o [v11.1]) rfl g13 (sp 1 rfl (evn (hK10 _ (rg (sp 3 rfl (evn (hN _ _ h (okr rfl))))))))
 ·exact qF rfl g9 (ls_exit (kXB1 (Option.some.inj h) _ (okr rfl)))
theorem dkc120_oo (x : Y119) : deepL (c120_oo x) = true := (dcc rfl (dcc rfl (dcc (dco dkc53_o 53 _) dcn)))
def spec_l6Db_J2 (rec : ((List Int) × Int × Int × (List Y119) × Int) -> Option ((List Int) × Int × Int × (List Y119))) (v1 : Int × Y132) (y1 : List Int) (y2 : Int) (y3 : Int) (y4 : List Y119) (y5 : Int) (e11 : List UInt8) (x14 : Int) : Option ((List Int) × Int × Int × (List Y119)) := obind (spec_l1PickInt (y1, y2, y3) [3, 6, 9]) fun v15 => obind (spec_l5Rel v15.2 x14 v15.1 v1.1) fun v17 => chk (List.length y4 + List.length [(e11, v17.1)] <= lim) (rec (v17.2.1, v17.2.2.1, v17.2.2.2, (y4 ++ [(e11, v17.1)]), (IntKind.i64.wrap (y5 + 1))))
def spec_l6Db_B1 (v1 : Int × Y132) (rec : ((List Int) × Int × Int × (List Y119) × Int) -> Option ((List Int) × Int × Int × (List Y119))) (s : (List Int) × Int × Int × (List Y119) × Int) : Option ((List Int) × Int × Int × (List Y119)) := match s with
  | (y1, y2, y3, y4, y5) => cond (decide (y5 < (List.length ([[114], [115], [116], [117], [118]]) : Int))) (obind (geti ([[114], [115], [116], [117], [118]]) y5) fun e11 => cond (e11 == [118]) (spec_l6Db_J2 rec v1 y1 y2 y3 y4 y5 e11 3) (spec_l6Db_J2 rec v1 y1 y2 y3 y4 y5 e11 2)) (some (y1, y2, y3, y4))
def spec_l6Db_J3 (x24 : List Int) (x25 : Int) (x26 : Int) (x27 : List Y119) : Option ((List Y119) × Y132) := some (x27, (x24, x25, x26))
def spec_l6Db (a0 : Y132) : Option ((List Y119) × Y132) := obind (spec_l1PickInt a0 [2, 3, 4, 6]) fun v1 => obind (loopF (spec_l6Db_B1 v1) fz (v1.2.1, v1.2.2.1, v1.2.2.2, ([] : List Y119), 0)) fun o1 => (match o1 with
  | (z4, z5, z6, z7) => (obind (spec_l1Once (z4, z5, z6) 8) fun v22 => cond v22.1 (chk (0 < List.length z7) (obind (spec_l1Below v22.2 5) fun v31 => obind (geti z7 v31.1) fun e33 => spec_l6Db_J3 v31.2.1 v31.2.2.1 v31.2.2.2 (seti z7 v31.1 (e33.1, (e33.2.1, []))))) (spec_l6Db_J3 v22.2.1 v22.2.2.1 v22.2.2.2 z7)))
theorem spec_l6Db_s {a0 : Y132} {r : (List Y119) × Y132} (h : spec_l6Db a0 = some r) : PtrAt Tryz.prog 107 [aL cu8 a0.1, nI a0.2.1, nI a0.2.2] [] [aL cu8 r.2.1, nI r.2.2.1, nI r.2.2.2] (.agg [oL 120 c120_oo r.1]) := by
 unfold spec_l6Db at h
 refine stp lit107 rfl (rn 1 rfl (rs (sp 1 rfl (qBk ci64 [2, 3, 4, 6] 3 1 (by kernel_rfl) rfl zci64 (?_)))))
 obtain ⟨v1, g2, h⟩ := ob_some h
 refine qP rfl rfl rfl rfl (qa rfl (erO eci64 _) eran) (spec_l1PickInt_s g2) (sp 1 rfl (evn (rn 1 rfl (ls_seq_k fun K3 hK3 => rs (qBk cst [[114], [115], [116], [117], [118]] 9 1 (by kernel_rfl) rfl zcst (sp 2 rfl (evn ?_)))))))
 obtain ⟨o1, hl, hr1⟩ := ob_some h
 have kXB1 : ∀ {z4 : List Int} {z5 : Int} {z6 : Int} {z7 : List Y119}, (z4, z5, z6, z7) = o1 -> Jn K3 [(0, .box [aL cu8 z4, nI z5, nI z6]), (2, .box [oL 120 c120_oo []]), (4, .box [oL 120 c120_oo z7])] := by
  intro z4 z5 z6 z7 h σ' hk
  subst h
  replace h := hr1
  try dsimp only at h
  refine hK3 _ (lh hk rfl (ls_seq_k fun K21 hK21 => rs (sp 1 rfl (?_))))
  obtain ⟨v22, g23, h⟩ := ob_some h
  refine qP rfl rfl rfl rfl (qs rfl eran) (spec_l1Once_s g23) (evn ?_)
  have kJ3 : ∀ {x24 : List Int} {x25 : Int} {x26 : Int} {x27 : List Y119}, spec_l6Db_J3 x24 x25 x26 x27 = some r -> Jn K21 [(0, .box [aL cu8 x24, nI x25, nI x26]), (2, .box [oL 120 c120_oo []]), (4, .box [oL 120 c120_oo x27])] := by
   intro x24 x25 x26 x27 h σ' hk
   unfold spec_l6Db_J3 at h
   exact hK21 _ (lh hk rfl (rn 1 rfl (ls_ret ((by cases h; exact ⟨.inl rfl, rfl, rfl⟩)))))
  rcases cond_some h with ⟨g28, h⟩ | ⟨g28, h⟩
  ·refine qT rfl g28 (qk [0, 2, 4] rfl ?_)
   obtain ⟨g29, h⟩ := chk_some h
   refine ls_hg (gLb (q := 900003) (b := 4) [] [] rfl rfl rfl g29 ?_)
   intro gg30 mm30
   refine qk [0, 2, 4, 900003] rfl (ls_gh (rgt 4 (by kernel_rfl) (sd 3 rfl (?_))))
   obtain ⟨v31, g32, h⟩ := ob_some h
   refine ed rfl (qP rfl rfl rfl rfl (qs rfl eran) (spec_l1Below_s g32) (evdn (gh_k ?_)))
   obtain ⟨e33, g34, h⟩ := ob_some h
   refine qIt rfl rfl rfl rfl g34 (sp 2 rfl (?_))
   refine qSt0 (y0 := e33) (i := v31.1) (es := 3) (e2 := 53) 2 (e33.1, (e33.2.1, [])) [0, 2, 4] rfl rfl rfl rfl rfl rfl rfl rfl zc120_oo g34 (fun x => sdL (dkc120_oo x)) (yc (snc (sA (aca (fun _ => rfl) _)) (snc rfl (snc rfl rfl))) (yc (snc rfl rfl) (yc (snc rfl rfl) yn))) (?_)
   exact evn (gDb (q := 900003) (b := 4) [] [] rfl rfl rfl (sl rfl) (kJ3 h _ (okr rfl)))
  ·exact qF rfl g28 (ls_skip (kJ3 h _ (okr rfl)))
 refine ls_rec (fun (s : (List Int) × Int × Int × (List Y119) × Int) => match s with | (y1, y2, y3, y4, y5) => [(0, .box [aL cu8 y1, nI y2, nI y3]), (2, .box [oL 120 c120_oo []]), (3, nI v1.1), (4, .box [oL 120 c120_oo y4]), (13, oL 9 cst ([[114], [115], [116], [117], [118]])), (14, nI (List.length ([[114], [115], [116], [117], [118]]) : Int)), (15, nI y5)]) _ _ _ _ hl (okr rfl) (fun _ => rfl) ?_
 rintro m ⟨y1, y2, y3, y4, y5⟩ N h hN
 unfold spec_l6Db_B1 at h
 dsimp only at h
 refine rn 1 rfl (ls_seq_k fun K8 hK8 => ?_)
 rcases cond_some h with ⟨g9, h⟩ | ⟨g9, h⟩
 ·refine qT rfl g9 (ls_skip (hK8 _ (ls_seq_k fun K10 hK10 => ls_blk (rs ?_))))
  obtain ⟨e11, g12, h⟩ := ob_some h
  refine qI rfl zcst g12 (sp 2 rfl (evn (rn 1 rfl (ls_seq_k fun K13 hK13 => rn 1 rfl ?_))))
  have kJ2 : ∀ {x14 : Int}, spec_l6Db_J2 (loopF (spec_l6Db_B1 v1) m) v1 y1 y2 y3 y4 y5 e11 x14 = some o1 -> Jn K13 [(0, .box [aL cu8 y1, nI y2, nI y3]), (2, .box [oL 120 c120_oo []]), (3, nI v1.1), (4, .box [oL 120 c120_oo y4]), (6, .str e11), (7, nI x14), (13, oL 9 cst ([[114], [115], [116], [117], [118]])), (14, nI (List.length ([[114], [115], [116], [117], [118]]) : Int)), (15, nI y5)] := by
   intro x14 h σ' hk
   unfold spec_l6Db_J2 at h
   refine hK13 _ (lh hk rfl (rs (sp 3 rfl (qBs ci64 [3, 6, 9] rfl rfl rfl zci64 (?_)))))
   obtain ⟨v15, g16, h⟩ := ob_some h
   refine qP rfl rfl rfl rfl (qa rfl (erO eci64 _) eran) (spec_l1PickInt_s g16) (sp 1 rfl (?_))
   obtain ⟨v17, g18, h⟩ := ob_some h
   refine qP rfl rfl rfl rfl (qs rfl (qs rfl (qs rfl eran))) (spec_l5Rel_s g18) (sp 2 rfl (evn (rg (sp 5 rfl (qBs c120_oo [(e11, v17.1)] rfl rfl rfl zc120_oo (?_))))))
   obtain ⟨g19, h⟩ := chk_some h
   exact qA c120_oo y4 [(e11, v17.1)] rfl rfl (flat_len zc120_oo [(e11, v17.1)]) rfl g19 (sp 2 rfl (evn (hK10 _ (rg (sp 2 rfl (evn (hN _ _ h (okr rfl))))))))
  rcases cond_some h with ⟨g20, h⟩ | ⟨g20, h⟩
  ·exact qT rfl g20 (rg (sp 1 rfl (evn (kJ2 h _ (okr rfl)))))
  ·exact qF rfl g20 (ls_skip (kJ2 h _ (okr rfl)))
 ·exact qF rfl g9 (ls_exit (kXB1 (Option.some.inj h) _ (okr rfl)))
def spec_l1Pick (a0 : Y132) (a1 : List (List UInt8)) : Option ((List UInt8) × Y132) := obind (spec_l1Below a0 (List.length a1 : Int)) fun v1 => obind (geti a1 v1.1) fun e3 => some (e3, v1.2)
theorem spec_l1Pick_s {a0 : Y132} {a1 : List (List UInt8)} {r : (List UInt8) × Y132} (h : spec_l1Pick a0 a1 = some r) : PtrAt Tryz.prog 115 [aL cu8 a0.1, nI a0.2.1, nI a0.2.2] [dL cst a1] [aL cu8 r.2.1, nI r.2.2.1, nI r.2.2.2] (.str r.1) := by
 unfold spec_l1Pick at h
 refine stp lit115 rfl (rn 1 rfl (rs (sp 4 rfl (?_))))
 obtain ⟨v1, g2, h⟩ := ob_some h
 refine qP rfl rfl rfl rfl (qs rfl eran) (spec_l1Below_s g2) (?_)
 obtain ⟨e3, g4, h⟩ := ob_some h
 exact qI rfl zcst g4 (sp 2 rfl (evn (ls_ret ((by cases h; exact ⟨.inl rfl, rfl, rfl⟩)))))
def spec_l5Cut_J2 (rec : ((List (List UInt8)) × Int × Int) -> Option ((List (List UInt8)) × Int)) (y3 : Int) (x9 : List (List UInt8)) (x10 : Int) : Option ((List (List UInt8)) × Int) := rec (x9, x10, (IntKind.i64.wrap (y3 + 1)))
def spec_l5Cut_B1 (a0 : List UInt8) (a1 : Int) (rec : ((List (List UInt8)) × Int × Int) -> Option ((List (List UInt8)) × Int)) (s : (List (List UInt8)) × Int × Int) : Option ((List (List UInt8)) × Int) := match s with
  | (y1, y2, y3) => cond (decide (y3 < (List.length a0 : Int))) (obind (geti a0 y3) fun b7 => cond ((UInt8.toNat b7 : Int) == a1) (chk ((0 : Int) <= y2 ∧ y2 <= y3 ∧ y3 <= (List.length a0 : Int)) (chk (List.length y1 + List.length [subl a0 y2 y3] <= lim) (spec_l5Cut_J2 rec y3 (y1 ++ [subl a0 y2 y3]) (IntKind.i64.wrap (y3 + 1))))) (spec_l5Cut_J2 rec y3 y1 y2)) (some (y1, y2))
def spec_l5Cut (a0 : List UInt8) (a1 : Int) : Option ((List (List UInt8))) := obind (loopF (spec_l5Cut_B1 a0 a1) fz (([] : List (List UInt8)), 0, 0)) fun o1 => (match o1 with
  | (z2, z3) => (chk ((0 : Int) <= z3 ∧ z3 <= (List.length a0 : Int) ∧ (List.length a0 : Int) <= (List.length a0 : Int)) (chk (List.length z2 + List.length [subl a0 z3 (List.length a0 : Int)] <= lim) (some (z2 ++ [subl a0 z3 (List.length a0 : Int)])))))
theorem spec_l5Cut_s {a0 : List UInt8} {a1 : Int} {r : (List (List UInt8))} (h : spec_l5Cut a0 a1 = some r) : SoundAt Tryz.prog 182 [.str a0, .int .u8 a1] (oL 9 cst r) := by
 unfold spec_l5Cut at h
 refine st lit182 rfl (rn 1 rfl (rs (qBs cst [] rfl rfl rfl zcst (sp 1 rfl (evn (rn 1 rfl (ls_seq_k fun K1 hK1 => rn 1 rfl ?_)))))))
 obtain ⟨o1, hl, hr1⟩ := ob_some h
 have kXB1 : ∀ {z2 : List (List UInt8)} {z3 : Int}, (z2, z3) = o1 -> Jn K1 [(0, .str a0), (5, oL 9 cst z2), (6, nI z3)] := by
  intro z2 z3 h σ' hk
  subst h
  replace h := hr1
  try dsimp only at h
  refine hK1 _ (lh hk rfl (rs (sp 3 rfl (?_))))
  obtain ⟨g14, h⟩ := chk_some h
  refine qSs rfl g14 (qBs cst [subl a0 z3 (List.length a0 : Int)] rfl rfl rfl zcst (?_))
  obtain ⟨g15, h⟩ := chk_some h
  exact qA cst z2 [subl a0 z3 (List.length a0 : Int)] rfl rfl (flat_len zcst [subl a0 z3 (List.length a0 : Int)]) rfl g15 (sp 1 rfl (evn (ls_ret ((by cases h; exact ⟨.inl rfl, rfl⟩)))))
 refine ls_rec (fun (s : (List (List UInt8)) × Int × Int) => match s with | (y1, y2, y3) => [(0, .str a0), (1, .int .u8 a1), (5, oL 9 cst y1), (6, nI y2), (7, nI y3)]) _ _ _ _ hl (okr rfl) (fun _ => rfl) ?_
 rintro m ⟨y1, y2, y3⟩ N h hN
 unfold spec_l5Cut_B1 at h
 dsimp only at h
 refine ls_seq_k fun K4 hK4 => rn 1 rfl ?_
 rcases cond_some h with ⟨g5, h⟩ | ⟨g5, h⟩
 ·refine qT rfl g5 (ls_skip (hK4 _ (ls_seq_k fun K6 hK6 => ls_blk (rs (sp 2 rfl (?_))))))
  obtain ⟨b7, g8, h⟩ := ob_some h
  refine qX rfl g8 (sp 2 rfl (evn ?_))
  have kJ2 : ∀ {x9 : List (List UInt8)} {x10 : Int}, spec_l5Cut_J2 (loopF (spec_l5Cut_B1 a0 a1) m) y3 x9 x10 = some o1 -> Jn K6 [(0, .str a0), (1, .int .u8 a1), (5, oL 9 cst x9), (6, nI x10), (7, nI y3)] := by
   intro x9 x10 h σ' hk
   unfold spec_l5Cut_J2 at h
   exact hK6 _ (lh hk rfl (rg (sp 3 rfl (evn (hN _ _ h (okr rfl))))))
  rcases cond_some h with ⟨g11, h⟩ | ⟨g11, h⟩
  ·refine qT rfl g11 (rs (sp 4 rfl (?_)))
   obtain ⟨g12, h⟩ := chk_some h
   refine qSs rfl g12 (qBs cst [subl a0 y2 y3] rfl rfl rfl zcst (?_))
   obtain ⟨g13, h⟩ := chk_some h
   exact qA cst y1 [subl a0 y2 y3] rfl rfl (flat_len zcst [subl a0 y2 y3]) rfl g13 (sp 1 rfl (evn (rg (sp 3 rfl (evn (kJ2 h _ (okr rfl)))))))
  ·exact qF rfl g11 (ls_skip (kJ2 h _ (okr rfl)))
 ·exact qF rfl g5 (ls_exit (kXB1 (Option.some.inj h) _ (okr rfl)))
def spec_VariableName (a0 : Int) : Option ((List UInt8)) := obind (spec_l1In a0 0 4) fun v2 => cond (!v2) (some []) (chk ((0 : Int) <= a0 ∧ a0 <= IntKind.i64.wrap (a0 + 1) ∧ IntKind.i64.wrap (a0 + 1) <= (List.length [88, 89, 90, 85, 86] : Int)) (some (subl [88, 89, 90, 85, 86] a0 (IntKind.i64.wrap (a0 + 1)))))
theorem spec_VariableName_s {a0 : Int} {r : (List UInt8)} (h : spec_VariableName a0 = some r) : SoundAt Tryz.prog 184 [nI a0] (.str r) := by
 unfold spec_VariableName at h
 refine st lit184 rfl (rn 1 rfl (ls_seq_k fun K1 hK1 => rs (sp 1 rfl (?_))))
 obtain ⟨v2, g3, h⟩ := ob_some h
 refine qC (qs rfl (qs rfl (qs rfl eran))) (spec_l1In_s g3) (sp 1 rfl (evn ?_))
 rcases cond_some h with ⟨g4, h⟩ | ⟨g4, h⟩
 ·exact qT rfl g4 (rn 1 rfl (ls_ret ((by cases h; exact ⟨.inl rfl, rfl⟩))))
 ·refine qF rfl g4 (ls_skip (hK1 _ (rs (sp 3 rfl (?_)))))
  obtain ⟨g5, h⟩ := chk_some h
  exact qSs rfl g5 (sp 1 rfl (evn (ls_ret ((by cases h; exact ⟨.inl rfl, rfl⟩)))))
end Go.Proofs.YtceghmdneadhbaaGreat
