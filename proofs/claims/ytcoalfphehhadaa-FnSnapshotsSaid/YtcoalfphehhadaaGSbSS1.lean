/-
  Functions of the program as typed functions, printed by gen.py, and that the program's functions do what they say. No conditions.
-/
import Derived.Test.YtcoalfphehhadaaGSSS1
namespace Go.Proofs.Ytcoalfphehhadaa
open Go.RowKit
set_option linter.unusedVariables false
set_option maxRecDepth 100000
set_option maxHeartbeats 1000000
def impl_rowsValid_J2 (rec : Int → Option (Sum (Unit) (Bool))) (y1 : Int) (x13 : Bool) : Option (Sum (Unit) (Bool)) := cond x13 (some (.inr false)) (rec (IntKind.i64.wrap (y1 + 1)))
def impl_rowsValid_B1 (a0 : Int) (a1 : List (List Int)) (rec : Int → Option (Sum (Unit) (Bool))) (y1 : Int) : Option (Sum (Unit) (Bool)) := cond (decide (y1 < (List.length a1 : Int))) (obind (geti a1 y1) fun e10 => cond ((List.length e10 : Int) != a0) (impl_rowsValid_J2 rec y1 true) (obind (impl_AreValidValues e10) fun v16 => cond (!v16) (impl_rowsValid_J2 rec y1 true) (cond (decide (0 < y1)) (obind (geti a1 (IntKind.i64.wrap (y1 - 1))) fun e20 => obind (impl_CompareRows e20 e10) fun v22 => impl_rowsValid_J2 rec y1 (decide (0 ≤ v22))) (impl_rowsValid_J2 rec y1 false)))) (some (.inl ()))
def impl_rowsValid (a0 : Int) (a1 : List (List Int)) : Option (Bool) := obind (impl_within a0 0 5) fun v2 => cond (!v2) (some false) (cond (decide (4000 < (List.length a1 : Int))) (some false) (obind (loopF (impl_rowsValid_B1 a0 a1) fz 0) fun o1 => (match o1 with
  | .inl _ => (some true)
  | .inr r => some r)))
theorem impl_rowsValid_s {a0 : Int} {a1 : List (List Int)} {r : Bool} (h : impl_rowsValid a0 a1 = some r) : SoundAt Try.prog 162 [nI a0, dL c60_d a1] (.bool r) := by
 unfold impl_rowsValid at h
 refine st lit162 rfl (rn 1 rfl (ls_seq_k fun K1 hK1 => rs (sp 1 rfl (?_))))
 obtain ⟨v2, g3, h⟩ := ob_some h
 refine qC (qs rfl (qs rfl (qs rfl eran))) (impl_within_s g3) (sp 2 rfl (?_))
 rcases cond_some h with ⟨g4, h⟩ | ⟨g4, h⟩
 ·exact qg 10 g4 rfl (sp 4 rfl (evn (qT rfl rfl (rn 1 rfl (ls_ret ((by cases h; exact ⟨.inl rfl, rfl⟩)))))))
 ·refine qg 10 g4 rfl (sp 4 rfl (evn ?_))
  rcases cond_some h with ⟨g5, h⟩ | ⟨g5, h⟩
  ·exact qT rfl g5 (rn 1 rfl (ls_ret ((by cases h; exact ⟨.inl rfl, rfl⟩))))
  ·refine qF rfl g5 (ls_skip (hK1 _ (ls_seq_k fun K6 hK6 => rn 1 rfl (qk [0, 1, 15, 16, 17] rfl ?_))))
   obtain ⟨o1, hl, hr1⟩ := ob_some h
   have kXB1 : (.inl ()) = o1 → Jn K6 [] := by
    intro h σ' hk
    subst h
    replace h := hr1
    try dsimp only at h
    exact hK6 _ (lh hk rfl (rn 1 rfl (ls_ret ((by cases h; exact ⟨.inl rfl, rfl⟩)))))
   refine ls_rec (fun (y1 : Int) => [(0, nI a0), (1, dL c60_d a1), (15, dL c60_d a1), (16, nI (List.length a1 : Int)), (17, nI y1)]) _ _ _ _ hl (okr rfl) (fun _ => rfl) ?_
   rintro m y1 N h hN
   unfold impl_rowsValid_B1 at h
   refine rn 1 rfl (ls_seq_k fun K7 hK7 => ?_)
   rcases cond_some h with ⟨g8, h⟩ | ⟨g8, h⟩
   ·refine qT rfl g8 (ls_skip (hK7 _ (ls_seq_k fun K9 hK9 => ls_blk (rs (sp 1 rfl (?_))))))
    obtain ⟨e10, g11, h⟩ := ob_some h
    refine qI rfl zc60_d g11 (sp 3 rfl (evn (rk fun K12 hK12 => ?_)))
    have kJ2 : ∀ {x13 : Bool}, impl_rowsValid_J2 (loopF (impl_rowsValid_B1 a0 a1) m) y1 x13 = some o1 → Jn K12 [(0, nI a0), (1, dL c60_d a1), (15, dL c60_d a1), (16, nI (List.length a1 : Int)), (17, nI y1), (44, .bool x13)] := by
     intro x13 h σ' hk
     unfold impl_rowsValid_J2 at h
     refine hK12 _ (lh hk rfl ?_)
     rcases cond_some h with ⟨g14, h⟩ | ⟨g14, h⟩
     ·exact qT rfl g14 (rn 1 rfl (ls_ret ((by cases h; cases hr1; exact ⟨.inl rfl, rfl⟩))))
     ·exact qF rfl g14 (ls_skip (hK9 _ (rg (sp 2 rfl (evn (hN _ _ h (okr rfl)))))))
    refine sp 5 rfl (?_)
    rcases cond_some h with ⟨g15, h⟩ | ⟨g15, h⟩
    ·exact qg 26 g15 rfl (sp 18 rfl (evn (kJ2 h _ (okr rfl))))
    ·refine qg 26 g15 rfl (sp 1 rfl (?_))
     obtain ⟨v16, g17, h⟩ := ob_some h
     refine oGR rfl rfl (qC (qa rfl (erD eci64 _) eran) (impl_AreValidValues_s g17) (sp 3 rfl (?_)))
     rcases cond_some h with ⟨g18, h⟩ | ⟨g18, h⟩
     ·exact qg 31 g18 rfl (sp 13 rfl (evn (kJ2 h _ (okr rfl))))
     ·refine qg 31 g18 rfl (sp 3 rfl (?_))
      rcases cond_some h with ⟨g19, h⟩ | ⟨g19, h⟩
      ·refine qg 34 g19 rfl (sp 3 rfl (?_))
       obtain ⟨e20, g21, h⟩ := ob_some h
       refine oGR rfl rfl (qI rfl zc60_d g21 (sp 2 rfl (?_)))
       obtain ⟨v22, g23, h⟩ := ob_some h
       exact oGR rfl rfl (qC (qa rfl (erD eci64 _) (qa rfl (erD eci64 _) eran)) (impl_CompareRows_s g23) (sp 3 rfl (evn (kJ2 h _ (okr rfl)))))
      ·exact qg 34 g19 rfl (sp 10 rfl (evn (kJ2 h _ (okr rfl))))
   ·exact qF rfl g8 (ls_exit (kXB1 (Option.some.inj h) _ trivial))
def impl_IsValidRelation (a0 : Y28) : Option (Bool) := obind (impl_rowsValid a0.1 a0.2) fun v1 => some v1
theorem impl_IsValidRelation_s {a0 : Y28} {r : Bool} (h : impl_IsValidRelation a0 = some r) : SoundAt Try.prog 135 [.agg (c29_dd a0)] (.bool r) := by
 unfold impl_IsValidRelation at h
 refine st lit135 rfl (rn 1 rfl (rs (sp 4 rfl (?_))))
 obtain ⟨v1, g2, h⟩ := ob_some h
 exact qC (qs rfl (qa rfl (erD ec60_d _) eran)) (impl_rowsValid_s g2) (sp 1 rfl (evn (ls_ret ((by cases h; exact ⟨.inl rfl, rfl⟩)))))
def impl_IsValidDatabase_J2 (rec : Int → Option (Sum (Unit) (Bool))) (y1 : Int) (x10 : Bool) : Option (Sum (Unit) (Bool)) := cond x10 (some (.inr false)) (rec (IntKind.i64.wrap (y1 + 1)))
def impl_IsValidDatabase_B1 (a0 : List Y82) (rec : Int → Option (Sum (Unit) (Bool))) (y1 : Int) : Option (Sum (Unit) (Bool)) := cond (decide (y1 < (List.length a0 : Int))) (obind (geti a0 y1) fun e7 => obind (impl_IsValidName e7.1) fun v12 => cond (!v12) (impl_IsValidDatabase_J2 rec y1 true) (cond (decide (0 < y1)) (obind (geti a0 (IntKind.i64.wrap (y1 - 1))) fun e16 => cond (!Op.bytesLess e16.1 e7.1) (impl_IsValidDatabase_J2 rec y1 true) (obind (impl_IsValidRelation e7.2) fun v19 => cond (!v19) (impl_IsValidDatabase_J2 rec y1 true) (cond (decide (e7.2.1 < 1)) (impl_IsValidDatabase_J2 rec y1 true) (impl_IsValidDatabase_J2 rec y1 (decide (16 < (List.length e7.2.2 : Int))))))) (obind (impl_IsValidRelation e7.2) fun v23 => cond (!v23) (impl_IsValidDatabase_J2 rec y1 true) (cond (decide (e7.2.1 < 1)) (impl_IsValidDatabase_J2 rec y1 true) (impl_IsValidDatabase_J2 rec y1 (decide (16 < (List.length e7.2.2 : Int)))))))) (some (.inl ()))
def impl_IsValidDatabase (a0 : List Y82) : Option (Bool) := cond (decide (6 < (List.length a0 : Int))) (some false) (obind (loopF (impl_IsValidDatabase_B1 a0) fz 0) fun o1 => (match o1 with
  | .inl _ => (some true)
  | .inr r => some r))
theorem impl_IsValidDatabase_s {a0 : List Y82} {r : Bool} (h : impl_IsValidDatabase a0 = some r) : SoundAt Try.prog 92 [.agg [dL c83_dd a0]] (.bool r) := by
 unfold impl_IsValidDatabase at h
 refine st lit92 rfl (rn 1 rfl (ls_seq_k fun K1 hK1 => rn 1 rfl ?_))
 rcases cond_some h with ⟨g2, h⟩ | ⟨g2, h⟩
 ·exact qT rfl g2 (rn 1 rfl (ls_ret ((by cases h; exact ⟨.inl rfl, rfl⟩))))
 ·refine qF rfl g2 (ls_skip (hK1 _ (ls_seq_k fun K3 hK3 => rn 1 rfl ?_)))
  obtain ⟨o1, hl, hr1⟩ := ob_some h
  have kXB1 : (.inl ()) = o1 → Jn K3 [] := by
   intro h σ' hk
   subst h
   replace h := hr1
   try dsimp only at h
   exact hK3 _ (lh hk rfl (rn 1 rfl (ls_ret ((by cases h; exact ⟨.inl rfl, rfl⟩)))))
  refine ls_rec (fun (y1 : Int) => [(1, .box [dL c83_dd a0]), (10, dL c83_dd a0), (11, nI (List.length a0 : Int)), (12, nI y1)]) _ _ _ _ hl (okr rfl) (fun _ => rfl) ?_
  rintro m y1 N h hN
  unfold impl_IsValidDatabase_B1 at h
  refine rn 1 rfl (ls_seq_k fun K4 hK4 => ?_)
  rcases cond_some h with ⟨g5, h⟩ | ⟨g5, h⟩
  ·refine qT rfl g5 (ls_skip (hK4 _ (ls_seq_k fun K6 hK6 => ls_blk (rs (sp 1 rfl (?_))))))
   obtain ⟨e7, g8, h⟩ := ob_some h
   refine qI rfl zc83_dd g8 (sp 4 rfl (evn (rdk (by kernel_rfl) fun K9 hK9 => ?_)))
   have kJ2 : ∀ {x10 : Bool}, impl_IsValidDatabase_J2 (loopF (impl_IsValidDatabase_B1 a0) m) y1 x10 = some o1 → Jn K9 [(1, .box [dL c83_dd a0]), (10, dL c83_dd a0), (11, nI (List.length a0 : Int)), (12, nI y1), (55, .bool x10)] := by
    intro x10 h σ' hk
    unfold impl_IsValidDatabase_J2 at h
    refine hK9 _ (lh hk rfl ?_)
    rcases cond_some h with ⟨g11, h⟩ | ⟨g11, h⟩
    ·exact qT rfl g11 (rn 1 rfl (ls_ret ((by cases h; cases hr1; exact ⟨.inl rfl, rfl⟩))))
    ·exact qF rfl g11 (ls_skip (hK6 _ (rg (sp 2 rfl (evn (hN _ _ h (okr rfl)))))))
   refine sd 2 rfl (?_)
   obtain ⟨v12, g13, h⟩ := ob_some h
   refine ed rfl (qC (qs rfl eran) (impl_IsValidName_s g13) (sd 2 rfl (?_)))
   rcases cond_some h with ⟨g14, h⟩ | ⟨g14, h⟩
   ·exact qgd 21 g14 rfl (sd 34 rfl (evdn (kJ2 h _ (okr rfl))))
   ·refine qgd 21 g14 rfl (sd 3 rfl (?_))
    rcases cond_some h with ⟨g15, h⟩ | ⟨g15, h⟩
    ·refine qgd 24 g15 rfl (sd 4 rfl (?_))
     obtain ⟨e16, g17, h⟩ := ob_some h
     refine ed rfl (oGR rfl rfl (qI rfl zc83_dd g17 (sd 8 rfl (?_))))
     rcases cond_some h with ⟨g18, h⟩ | ⟨g18, h⟩
     ·exact qgd 37 g18 rfl (sd 18 rfl (evdn (kJ2 h _ (okr rfl))))
     ·refine qgd 37 g18 rfl (sd 2 rfl (?_))
      obtain ⟨v19, g20, h⟩ := ob_some h
      refine ed rfl (oGR rfl rfl (qC (qa rfl (erg (erc rfl (erc (erD ec60_d _) rfl))) eran) (impl_IsValidRelation_s g20) (sd 3 rfl (?_))))
      rcases cond_some h with ⟨g21, h⟩ | ⟨g21, h⟩
      ·exact qgd 43 g21 rfl (sd 12 rfl (evdn (kJ2 h _ (okr rfl))))
      ·refine qgd 43 g21 rfl (sd 6 rfl (?_))
       rcases cond_some h with ⟨g22, h⟩ | ⟨g22, h⟩
       ·exact qgd 49 g22 rfl (sd 6 rfl (evdn (kJ2 h _ (okr rfl))))
       ·exact qgd 49 g22 rfl (sd 6 rfl (evdn (kJ2 h _ (okr rfl))))
    ·refine qgd 24 g15 rfl (sd 15 rfl (?_))
     obtain ⟨v23, g24, h⟩ := ob_some h
     refine ed rfl (oGR rfl rfl (qC (qa rfl (erg (erc rfl (erc (erD ec60_d _) rfl))) eran) (impl_IsValidRelation_s g24) (sd 3 rfl (?_))))
     rcases cond_some h with ⟨g25, h⟩ | ⟨g25, h⟩
     ·exact qgd 43 g25 rfl (sd 12 rfl (evdn (kJ2 h _ (okr rfl))))
     ·refine qgd 43 g25 rfl (sd 6 rfl (?_))
      rcases cond_some h with ⟨g26, h⟩ | ⟨g26, h⟩
      ·exact qgd 49 g26 rfl (sd 6 rfl (evdn (kJ2 h _ (okr rfl))))
      ·exact qgd 49 g26 rfl (sd 6 rfl (evdn (kJ2 h _ (okr rfl))))
  ·exact qF rfl g5 (ls_exit (kXB1 (Option.some.inj h) _ trivial))
def impl_IsValidHistory_B1 (a0 : Y25) (rec : Int → Option (Sum (Unit) (Bool))) (y1 : Int) : Option (Sum (Unit) (Bool)) := cond (decide (y1 < (List.length a0.2 : Int))) (obind (geti a0.2 y1) fun e12 => obind (impl_IsValidDatabase e12) fun v14 => cond (!v14) (some (.inr false)) (rec (IntKind.i64.wrap (y1 + 1)))) (some (.inl ()))
def impl_IsValidHistory (a0 : Y25) : Option (Bool) := obind (impl_within (List.length a0.2 : Int) 1 6) fun v2 => cond (!v2) (some false) (obind (impl_within a0.1 1 (IntKind.i64.wrap ((IntKind.i64.wrap (99 - (List.length a0.2 : Int))) + 1))) fun v5 => cond (!v5) (some false) (obind (loopF (impl_IsValidHistory_B1 a0) fz 0) fun o1 => (match o1 with
  | .inl _ => (some true)
  | .inr r => some r)))
theorem impl_IsValidHistory_s {a0 : Y25} {r : Bool} (h : impl_IsValidHistory a0 = some r) : SoundAt Try.prog 41 [.agg (c26_dddd a0)] (.bool r) := by
 unfold impl_IsValidHistory at h
 refine st lit41 rfl (rn 2 rfl (ls_seq_k fun K1 hK1 => rs (sp 1 rfl (?_))))
 obtain ⟨v2, g3, h⟩ := ob_some h
 refine qC (qs rfl (qs rfl (qs rfl eran))) (impl_within_s g3) (sp 2 rfl (?_))
 rcases cond_some h with ⟨g4, h⟩ | ⟨g4, h⟩
 ·exact qg 12 g4 rfl (sp 8 rfl (evn (qT rfl rfl (rn 1 rfl (ls_ret ((by cases h; exact ⟨.inl rfl, rfl⟩)))))))
 ·refine qg 12 g4 rfl (sp 5 rfl (?_))
  obtain ⟨v5, g6, h⟩ := ob_some h
  refine oGR rfl rfl (qC (qs rfl (qs rfl (qs rfl eran))) (impl_within_s g6) (sp 2 rfl (evn ?_)))
  rcases cond_some h with ⟨g7, h⟩ | ⟨g7, h⟩
  ·exact qT rfl g7 (rn 1 rfl (qk [2] rfl (ls_ret ((by cases h; exact ⟨.inl rfl, rfl⟩)))))
  ·refine qF rfl g7 (ls_skip (hK1 _ (ls_seq_k fun K8 hK8 => rn 1 rfl ?_)))
   obtain ⟨o1, hl, hr1⟩ := ob_some h
   have kXB1 : (.inl ()) = o1 → Jn K8 [] := by
    intro h σ' hk
    subst h
    replace h := hr1
    try dsimp only at h
    exact hK8 _ (lh hk rfl (rn 1 rfl (ls_ret ((by cases h; exact ⟨.inl rfl, rfl⟩)))))
   refine ls_rec (fun (y1 : Int) => [(22, dL c39_ddd a0.2), (23, nI (List.length a0.2 : Int)), (24, nI y1)]) _ _ _ _ hl (okr rfl) (fun _ => rfl) ?_
   rintro m y1 N h hN
   unfold impl_IsValidHistory_B1 at h
   refine rn 1 rfl (ls_seq_k fun K9 hK9 => ?_)
   rcases cond_some h with ⟨g10, h⟩ | ⟨g10, h⟩
   ·refine qT rfl g10 (ls_skip (hK9 _ (ls_seq_k fun K11 hK11 => ls_blk (rs ?_))))
    obtain ⟨e12, g13, h⟩ := ob_some h
    refine qI rfl zc39_ddd g13 (sp 3 rfl (evn (rs (sp 1 rfl (?_)))))
    obtain ⟨v14, g15, h⟩ := ob_some h
    refine qC (qa rfl (erg (erc (erD ec83_dd _) rfl)) eran) (impl_IsValidDatabase_s g15) (sp 1 rfl (evn ?_))
    rcases cond_some h with ⟨g16, h⟩ | ⟨g16, h⟩
    ·exact qT rfl g16 (rn 1 rfl (ls_ret ((by cases h; cases hr1; exact ⟨.inl rfl, rfl⟩))))
    ·exact qF rfl g16 (ls_skip (hK11 _ (rg (sp 2 rfl (evn (hN _ _ h (okr rfl)))))))
   ·exact qF rfl g10 (ls_exit (kXB1 (Option.some.inj h) _ trivial))
def impl_LookupRelation_J1  : Option (Y28 × Bool) := some ((0, []), false)
def impl_LookupRelation_B2 (a0 : List Y82) (a1 : List UInt8) (rec : Int → Option (Sum (Unit) (Y28 × Bool))) (y2 : Int) : Option (Sum (Unit) (Y28 × Bool)) := cond (decide (y2 < (List.length a0 : Int))) (obind (geti a0 y2) fun e8 => cond (e8.1 == a1) (obind (impl_copyRelation e8.2) fun v11 => some (.inr (v11, true))) (rec (IntKind.i64.wrap (y2 + 1)))) (some (.inl ()))
def impl_LookupRelation (a0 : List Y82) (a1 : List UInt8) : Option (Y28 × Bool) := obind (impl_IsValidDatabase a0) fun v2 => cond v2 (obind (loopF (impl_LookupRelation_B2 a0 a1) fz 0) fun o2 => (match o2 with
  | .inl _ => (impl_LookupRelation_J1 )
  | .inr r => some r)) (impl_LookupRelation_J1 )
theorem impl_LookupRelation_s {a0 : List Y82} {a1 : List UInt8} {r : Y28 × Bool} (h : impl_LookupRelation a0 a1 = some r) : SoundAt Try.prog 94 [.agg [dL c83_dd a0], .str a1] (.tup [.agg (c29_oo r.1), .bool r.2]) := by
 unfold impl_LookupRelation at h
 refine st lit94 rfl (rn 1 rfl (ls_seq_k fun K1 hK1 => rs (sp 1 rfl (?_))))
 obtain ⟨v2, g3, h⟩ := ob_some h
 refine qC (qa rfl (erg (erc (erD ec83_dd _) rfl)) eran) (impl_IsValidDatabase_s g3) (evn ?_)
 have kJ1 : impl_LookupRelation_J1 = some r → Jn K1 [(4, .box [nI 0, oL 60 c60_o []])] := by
  intro h σ' hk
  unfold impl_LookupRelation_J1 at h
  exact hK1 _ (lh hk rfl (rn 1 rfl (ls_ret ((by cases h; exact ⟨.inl rfl, rfl⟩)))))
 rcases cond_some h with ⟨g4, h⟩ | ⟨g4, h⟩
 ·refine qT rfl g4 (rn 1 rfl ?_)
  obtain ⟨o2, hl, hr2⟩ := ob_some h
  have kXB2 : (.inl ()) = o2 → Jn K1 [(4, .box [nI 0, oL 60 c60_o []])] := by
   intro h σ' hk
   subst h
   replace h := hr2
   try dsimp only at h
   exact kJ1 h _ ⟨hk.1, trivial⟩
  refine ls_rec (fun (y2 : Int) => [(1, .str a1), (4, .box [nI 0, oL 60 c60_o []]), (11, dL c83_dd a0), (12, nI (List.length a0 : Int)), (13, nI y2)]) _ _ _ _ hl (okr rfl) (fun _ => rfl) ?_
  rintro m y2 N h hN
  unfold impl_LookupRelation_B2 at h
  refine rn 1 rfl (ls_seq_k fun K5 hK5 => ?_)
  rcases cond_some h with ⟨g6, h⟩ | ⟨g6, h⟩
  ·refine qT rfl g6 (ls_skip (hK5 _ (ls_seq_k fun K7 hK7 => ls_blk (rs ?_))))
   obtain ⟨e8, g9, h⟩ := ob_some h
   refine qI rfl zc83_dd g9 (sp 3 rfl (evn (rn 1 rfl ?_)))
   rcases cond_some h with ⟨g10, h⟩ | ⟨g10, h⟩
   ·refine qT rfl g10 (rs (sp 2 rfl (?_)))
    obtain ⟨v11, g12, h⟩ := ob_some h
    exact qC (qa rfl (erg (erc rfl (erc (erD ec60_d _) rfl))) eran) (impl_copyRelation_s g12) (sp 2 rfl (evn (ls_ret ((by cases h; cases hr2; exact ⟨.inl rfl, rfl⟩)))))
   ·exact qF rfl g10 (ls_skip (hK7 _ (rg (sp 2 rfl (evn (hN _ _ h (okr rfl)))))))
  ·exact qF rfl g6 (ls_exit (kXB2 (Option.some.inj h) _ (okr rfl)))
 ·exact qF rfl g4 (ls_skip (kJ1 h _ (okr rfl)))
def c29_do (x : Y28) : List V := [nI x.1, dL c60_o x.2]
theorem zc29_do (x : Y28) : (c29_do x).length = 2 := rfl
theorem ec29_do (x : Y28) : erL (c29_do x) = c29_dd x := (erc rfl (erc (erD ec60_o _) rfl))
def impl_applicable_J2 (v1 : Y28 × Bool) (x6 : Bool) : Option (Y28 × Bool) := some (v1.1, x6)
def impl_applicable_J1 (a1 : Y30) (v1 : Y28 × Bool) (x4 : Bool) : Option (Y28 × Bool) := cond x4 (cond (a1.2.1.1 == v1.1.1) (impl_applicable_J2 v1 (a1.2.2.1 == v1.1.1)) (impl_applicable_J2 v1 false)) (impl_applicable_J2 v1 false)
def impl_applicable (a0 : List Y82) (a1 : Y30) : Option (Y28 × Bool) := obind (impl_LookupRelation a0 a1.1) fun v1 => cond v1.2 (obind (impl_IsValidRelation a1.2.1) fun v10 => cond v10 (obind (impl_IsValidRelation a1.2.2) fun v13 => impl_applicable_J1 a1 v1 v13) (impl_applicable_J1 a1 v1 false)) (impl_applicable_J1 a1 v1 false)
theorem impl_applicable_s {a0 : List Y82} {a1 : Y30} {r : Y28 × Bool} (h : impl_applicable a0 a1 = some r) : SoundAt Try.prog 136 [.agg [dL c83_dd a0], .agg (c31_dddd a1)] (.tup [.agg (c29_do r.1), .bool r.2]) := by
 unfold impl_applicable at h
 refine st lit136 rfl (rn 1 rfl (rs (sp 3 rfl (?_))))
 obtain ⟨v1, g2, h⟩ := ob_some h
 refine qC (qa rfl (erg (erc (erD ec83_dd _) rfl)) (qs rfl eran)) (impl_LookupRelation_s g2) (sp 6 rfl (evn (rk fun K3 hK3 => ?_)))
 have kJ1 : ∀ {x4 : Bool}, impl_applicable_J1 a1 v1 x4 = some r → Jn K3 [(3, .box [.str a1.1, nI a1.2.1.1, dL c60_d a1.2.1.2, nI a1.2.2.1, dL c60_d a1.2.2.2]), (4, .box [nI 0, oL 60 c60_o []]), (6, .box [nI v1.1.1, oL 60 c60_o v1.1.2]), (7, .bool x4)] := by
  intro x4 h σ' hk
  unfold impl_applicable_J1 at h
  refine hK3 _ (lh hk rfl (rdk (by kernel_rfl) fun K5 hK5 => ?_))
  have kJ2 : ∀ {x6 : Bool}, impl_applicable_J2 v1 x6 = some r → Jn K5 [(4, .box [nI v1.1.1, dL c60_o v1.1.2]), (5, .bool x6)] := by
   intro x6 h σ' hk
   unfold impl_applicable_J2 at h
   exact hK5 _ (lh hk rfl (ls_ret ((by cases h; exact ⟨.inl rfl, rfl⟩))))
  refine sd 3 rfl (?_)
  rcases cond_some h with ⟨g7, h⟩ | ⟨g7, h⟩
  ·refine qgd 28 g7 rfl (sd 8 rfl (?_))
   rcases cond_some h with ⟨g8, h⟩ | ⟨g8, h⟩
   ·exact qgd 36 g8 rfl (sd 9 rfl (evdn (kJ2 h _ (okr rfl))))
   ·exact qgd 36 g8 rfl (sd 9 rfl (evdn (kJ2 h _ (okr rfl))))
  ·exact qgd 28 g7 rfl (sd 17 rfl (evdn (kJ2 h _ (okr rfl))))
 refine sp 2 rfl (?_)
 rcases cond_some h with ⟨g9, h⟩ | ⟨g9, h⟩
 ·refine qg 16 g9 rfl (sp 2 rfl (?_))
  obtain ⟨v10, g11, h⟩ := ob_some h
  refine oGR rfl rfl (qC (qa rfl (erg (erc rfl (erc (erD ec60_d _) rfl))) eran) (impl_IsValidRelation_s g11) (sp 2 rfl (?_)))
  rcases cond_some h with ⟨g12, h⟩ | ⟨g12, h⟩
  ·refine qg 21 g12 rfl (sp 2 rfl (?_))
   obtain ⟨v13, g14, h⟩ := ob_some h
   exact oGR rfl rfl (qC (qa rfl (erg (erc rfl (erc (erD ec60_d _) rfl))) eran) (impl_IsValidRelation_s g14) (sp 2 rfl (evn (kJ1 h _ (okr rfl)))))
  ·exact qg 21 g12 rfl (sp 5 rfl (evn (kJ1 h _ (okr rfl))))
 ·exact qg 16 g9 rfl (sp 10 rfl (evn (kJ1 h _ (okr rfl))))
def impl_place_B1 (a0 : List (List Int)) (a1 : List Int) (rec : (Int × Int) → Option (Int)) (s : Int × Int) : Option (Int) := match s with
  | (y1, y2) => cond (decide (y1 < y2)) (obind (geti a0 (IntKind.i64.wrap (Int.tdiv (IntKind.i64.wrap (y1 + y2)) 2))) fun e5 => obind (impl_CompareRows e5 a1) fun v7 => cond (decide (v7 < 0)) (rec ((IntKind.i64.wrap ((IntKind.i64.wrap (Int.tdiv (IntKind.i64.wrap (y1 + y2)) 2)) + 1)), y2)) (rec (y1, (IntKind.i64.wrap (Int.tdiv (IntKind.i64.wrap (y1 + y2)) 2))))) (some y1)
def impl_place_J2 (z2 : Int) (x11 : Bool) : Option (Int × Bool) := some (z2, x11)
def impl_place (a0 : List (List Int)) (a1 : List Int) : Option (Int × Bool) := obind (loopF (impl_place_B1 a0 a1) fz (0, (List.length a0 : Int))) fun z2 => cond (decide (z2 < (List.length a0 : Int))) (obind (geti a0 z2) fun e13 => obind (impl_CompareRows e13 a1) fun v15 => impl_place_J2 z2 (v15 == 0)) (impl_place_J2 z2 false)
theorem impl_place_s {a0 : List (List Int)} {a1 : List Int} {r : Int × Bool} (h : impl_place a0 a1 = some r) : SoundAt Try.prog 163 [dL c60_d a0, dL ci64 a1] (.tup [nI r.1, .bool r.2]) := by
 unfold impl_place at h
 refine st lit163 rfl (rn 2 rfl (ls_seq_k fun K1 hK1 => ?_))
 obtain ⟨o1, hl, hr1⟩ := ob_some h
 have kXB1 : ∀ {z2 : Int}, z2 = o1 → Jn K1 [(0, dL c60_d a0), (1, dL ci64 a1), (6, nI z2)] := by
  intro z2 h σ' hk
  subst h
  replace h := hr1
  try dsimp only at h
  refine hK1 _ (lh hk rfl (rk fun K10 hK10 => ?_))
  have kJ2 : ∀ {x11 : Bool}, impl_place_J2 z2 x11 = some r → Jn K10 [(4, nI z2), (5, .bool x11)] := by
   intro x11 h σ' hk
   unfold impl_place_J2 at h
   exact hK10 _ (lh hk rfl (ls_ret ((by cases h; exact ⟨.inl rfl, rfl⟩))))
  refine sp 6 rfl (?_)
  rcases cond_some h with ⟨g12, h⟩ | ⟨g12, h⟩
  ·refine qg 33 g12 rfl (sp 2 rfl (?_))
   obtain ⟨e13, g14, h⟩ := ob_some h
   refine oGR rfl rfl (qI rfl zc60_d g14 (sp 2 rfl (?_)))
   obtain ⟨v15, g16, h⟩ := ob_some h
   exact oGR rfl rfl (qC (qa rfl (erD eci64 _) (qa rfl (erD eci64 _) eran)) (impl_CompareRows_s g16) (sp 4 rfl (evn (kJ2 h _ (okr rfl)))))
  ·exact qg 33 g12 rfl (sp 10 rfl (evn (kJ2 h _ (okr rfl))))
 refine ls_rec (fun (s : Int × Int) => match s with | (y1, y2) => [(0, dL c60_d a0), (1, dL ci64 a1), (6, nI y1), (7, nI y2)]) _ _ _ _ hl (okr rfl) (fun _ => rfl) ?_
 rintro m ⟨y1, y2⟩ N h hN
 unfold impl_place_B1 at h
 dsimp only at h
 refine ls_seq_k fun K3 hK3 => rn 1 rfl ?_
 rcases cond_some h with ⟨g4, h⟩ | ⟨g4, h⟩
 ·refine qT rfl g4 (ls_skip (hK3 _ (ls_blk (rn 1 rfl (rs (sp 2 rfl (?_)))))))
  obtain ⟨e5, g6, h⟩ := ob_some h
  refine qI rfl zc60_d g6 (sp 2 rfl (?_))
  obtain ⟨v7, g8, h⟩ := ob_some h
  refine qC (qa rfl (erD eci64 _) (qa rfl (erD eci64 _) eran)) (impl_CompareRows_s g8) (sp 1 rfl (evn ?_))
  rcases cond_some h with ⟨g9, h⟩ | ⟨g9, h⟩
  ·exact qT rfl g9 (rg (sp 3 rfl (evn (hN _ _ h (okr rfl)))))
  ·exact qF rfl g9 (rg (sp 2 rfl (evn (hN _ _ h (okr rfl)))))
 ·exact qF rfl g4 (ls_exit (kXB1 (Option.some.inj h) _ (okr rfl)))
def impl_ContainsRow_J1 (x4 : Bool) : Option (Bool) := some x4
def impl_ContainsRow (a0 : Y28) (a1 : List Int) : Option (Bool) := obind (impl_place a0.2 a1) fun v1 => obind (impl_IsValidRelation a0) fun v5 => cond v5 (impl_ContainsRow_J1 v1.2) (impl_ContainsRow_J1 false)
theorem impl_ContainsRow_s {a0 : Y28} {a1 : List Int} {r : Bool} (h : impl_ContainsRow a0 a1 = some r) : SoundAt Try.prog 137 [.agg (c29_dd a0), dL ci64 a1] (.bool r) := by
 unfold impl_ContainsRow at h
 refine st lit137 rfl (rn 1 rfl (rs (sp 3 rfl (?_))))
 obtain ⟨v1, g2, h⟩ := ob_some h
 refine qC (qa rfl (erD ec60_d _) (qa rfl (erD eci64 _) eran)) (impl_place_s g2) (sp 5 rfl (evn (rk fun K3 hK3 => ?_)))
 have kJ1 : ∀ {x4 : Bool}, impl_ContainsRow_J1 x4 = some r → Jn K3 [(4, .bool x4)] := by
  intro x4 h σ' hk
  unfold impl_ContainsRow_J1 at h
  exact hK3 _ (lh hk rfl (ls_ret ((by cases h; exact ⟨.inl rfl, rfl⟩))))
 refine sp 1 rfl (?_)
 obtain ⟨v5, g6, h⟩ := ob_some h
 refine qC (qa rfl (erg (erc rfl (erc (erD ec60_d _) rfl))) eran) (impl_IsValidRelation_s g6) (sp 1 rfl (?_))
 rcases cond_some h with ⟨g7, h⟩ | ⟨g7, h⟩
 ·exact qg 16 g7 rfl (sp 3 rfl (evn (kJ1 h _ (okr rfl))))
 ·exact qg 16 g7 rfl (sp 3 rfl (evn (kJ1 h _ (okr rfl))))
def impl_NormalizeDelta_J2 (rec : ((List (List Int)) × Int) → Option ((List (List Int)))) (y2 : Int) (x14 : List (List Int)) : Option ((List (List Int))) := rec (x14, (IntKind.i64.wrap (y2 + 1)))
def impl_NormalizeDelta_B1 (a1 : Y30) (v1 : Y28 × Bool) (rec : ((List (List Int)) × Int) → Option ((List (List Int)))) (s : (List (List Int)) × Int) : Option ((List (List Int))) := match s with
  | (y1, y2) => cond (decide (y2 < (List.length a1.2.1.2 : Int))) (obind (geti a1.2.1.2 y2) fun e10 => obind (impl_ContainsRow v1.1 e10) fun v12 => cond (!v12) (obind (impl_copyInts e10) fun v16 => chk (List.length y1 + List.length [v16] ≤ lim) (impl_NormalizeDelta_J2 rec y2 (y1 ++ [v16]))) (impl_NormalizeDelta_J2 rec y2 y1)) (some y1)
def impl_NormalizeDelta_J5 (rec : ((List (List Int)) × Int) → Option ((List (List Int)))) (y4 : Int) (x28 : List (List Int)) : Option ((List (List Int))) := rec (x28, (IntKind.i64.wrap (y4 + 1)))
def impl_NormalizeDelta_J4 (rec : ((List (List Int)) × Int) → Option ((List (List Int)))) (y3 : List (List Int)) (y4 : Int) (e24 : List Int) (x27 : Bool) : Option ((List (List Int))) := cond x27 (obind (impl_copyInts e24) fun v30 => chk (List.length y3 + List.length [v30] ≤ lim) (impl_NormalizeDelta_J5 rec y4 (y3 ++ [v30]))) (impl_NormalizeDelta_J5 rec y4 y3)
def impl_NormalizeDelta_B3 (a1 : Y30) (v1 : Y28 × Bool) (rec : ((List (List Int)) × Int) → Option ((List (List Int)))) (s : (List (List Int)) × Int) : Option ((List (List Int))) := match s with
  | (y3, y4) => cond (decide (y4 < (List.length a1.2.2.2 : Int))) (obind (geti a1.2.2.2 y4) fun e24 => obind (impl_ContainsRow v1.1 e24) fun v33 => cond v33 (obind (impl_ContainsRow a1.2.1 e24) fun v36 => impl_NormalizeDelta_J4 rec y3 y4 e24 (!v36)) (impl_NormalizeDelta_J4 rec y3 y4 e24 false)) (some y3)
def impl_NormalizeDelta (a0 : List Y82) (a1 : Y30) : Option (Y30 × Bool) := obind (impl_applicable a0 a1) fun v1 => cond (!v1.2) (some (([], (0, []), (0, [])), false)) (obind (loopF (impl_NormalizeDelta_B1 a1 v1) fz (([] : List (List Int)), 0)) fun z6 => obind (loopF (impl_NormalizeDelta_B3 a1 v1) fz (([] : List (List Int)), 0)) fun z20 => some ((a1.1, (v1.1.1, z6), (v1.1.1, z20)), true))
theorem impl_NormalizeDelta_s {a0 : List Y82} {a1 : Y30} {r : Y30 × Bool} (h : impl_NormalizeDelta a0 a1 = some r) : SoundAt Try.prog 93 [.agg [dL c83_dd a0], .agg (c31_dddd a1)] (.tup [.agg (c31_oooo r.1), .bool r.2]) := by
 unfold impl_NormalizeDelta at h
 refine st lit93 rfl (rn 1 rfl (rs (sp 2 rfl (?_))))
 obtain ⟨v1, g2, h⟩ := ob_some h
 refine qC (qa rfl (erg (erc (erD ec83_dd _) rfl)) (qa rfl (erg (erc rfl (erc rfl (erc (erD ec60_d _) (erc rfl (erc (erD ec60_d _) rfl)))))) eran)) (impl_applicable_s g2) (sp 6 rfl (evn (ls_seq_k fun K3 hK3 => rn 1 rfl ?_)))
 rcases cond_some h with ⟨g4, h⟩ | ⟨g4, h⟩
 ·exact qT rfl g4 (rn 1 rfl (ls_ret ((by cases h; exact ⟨.inl rfl, rfl⟩))))
 ·refine qF rfl g4 (ls_skip (hK3 _ (rn 1 rfl (ls_seq_k fun K5 hK5 => rn 1 rfl (qk [3, 4, 6, 8, 33, 34, 35] rfl ?_)))))
  obtain ⟨o1, hl, hr1⟩ := ob_some h
  have kXB1 : ∀ {z6 : List (List Int)}, z6 = o1 → Jn K5 [(3, .box [.str a1.1, nI a1.2.1.1, dL c60_d a1.2.1.2, nI a1.2.2.1, dL c60_d a1.2.2.2]), (4, .box [.str [], nI 0, oL 60 c60_o [], nI 0, oL 60 c60_o []]), (6, .box [nI v1.1.1, dL c60_o v1.1.2]), (8, .box [.str a1.1, nI v1.1.1, oL 60 c60_o z6, nI v1.1.1, oL 60 c60_o []])] := by
   intro z6 h σ' hk
   subst h
   replace h := hr1
   try dsimp only at h
   refine hK5 _ (lh hk rfl (ls_seq_k fun K19 hK19 => rn 1 rfl ?_))
   obtain ⟨o3, hl, hr3⟩ := ob_some h
   have kXB3 : ∀ {z20 : List (List Int)}, z20 = o3 → Jn K19 [(4, .box [.str [], nI 0, oL 60 c60_o [], nI 0, oL 60 c60_o []]), (8, .box [.str a1.1, nI v1.1.1, oL 60 c60_o z6, nI v1.1.1, oL 60 c60_o z20])] := by
    intro z20 h σ' hk
    subst h
    replace h := hr3
    try dsimp only at h
    exact hK19 _ (lh hk rfl (rn 1 rfl (ls_ret ((by cases h; exact ⟨.inl rfl, rfl⟩)))))
   refine ls_rec (fun (s : (List (List Int)) × Int) => match s with | (y3, y4) => [(3, .box [.str a1.1, nI a1.2.1.1, dL c60_d a1.2.1.2, nI a1.2.2.1, dL c60_d a1.2.2.2]), (4, .box [.str [], nI 0, oL 60 c60_o [], nI 0, oL 60 c60_o []]), (6, .box [nI v1.1.1, dL c60_o v1.1.2]), (8, .box [.str a1.1, nI v1.1.1, oL 60 c60_o z6, nI v1.1.1, oL 60 c60_o y3]), (55, dL c60_d a1.2.2.2), (56, nI (List.length a1.2.2.2 : Int)), (57, nI y4)]) _ _ _ _ hl (okr rfl) (fun _ => rfl) ?_
   rintro m ⟨y3, y4⟩ N h hN
   unfold impl_NormalizeDelta_B3 at h
   dsimp only at h
   refine rn 1 rfl (ls_seq_k fun K21 hK21 => ?_)
   rcases cond_some h with ⟨g22, h⟩ | ⟨g22, h⟩
   ·refine qT rfl g22 (ls_skip (hK21 _ (ls_seq_k fun K23 hK23 => ls_blk (rs ?_))))
    obtain ⟨e24, g25, h⟩ := ob_some h
    refine qI rfl zc60_d g25 (sp 2 rfl (evn (rk fun K26 hK26 => ?_)))
    have kJ4 : ∀ {x27 : Bool}, impl_NormalizeDelta_J4 (loopF (impl_NormalizeDelta_B3 a1 v1) m) y3 y4 e24 x27 = some o3 → Jn K26 [(3, .box [.str a1.1, nI a1.2.1.1, dL c60_d a1.2.1.2, nI a1.2.2.1, dL c60_d a1.2.2.2]), (4, .box [.str [], nI 0, oL 60 c60_o [], nI 0, oL 60 c60_o []]), (6, .box [nI v1.1.1, dL c60_o v1.1.2]), (8, .box [.str a1.1, nI v1.1.1, oL 60 c60_o z6, nI v1.1.1, oL 60 c60_o y3]), (12, dL ci64 e24), (55, dL c60_d a1.2.2.2), (56, nI (List.length a1.2.2.2 : Int)), (57, nI y4), (70, .bool x27)] := by
     intro x27 h σ' hk
     unfold impl_NormalizeDelta_J4 at h
     refine hK26 _ (lh hk rfl ?_)
     have kJ5 : ∀ {x28 : List (List Int)}, impl_NormalizeDelta_J5 (loopF (impl_NormalizeDelta_B3 a1 v1) m) y4 x28 = some o3 → Jn K23 [(3, .box [.str a1.1, nI a1.2.1.1, dL c60_d a1.2.1.2, nI a1.2.2.1, dL c60_d a1.2.2.2]), (4, .box [.str [], nI 0, oL 60 c60_o [], nI 0, oL 60 c60_o []]), (6, .box [nI v1.1.1, dL c60_o v1.1.2]), (8, .box [.str a1.1, nI v1.1.1, oL 60 c60_o z6, nI v1.1.1, oL 60 c60_o x28]), (55, dL c60_d a1.2.2.2), (56, nI (List.length a1.2.2.2 : Int)), (57, nI y4)] := by
      intro x28 h σ' hk
      unfold impl_NormalizeDelta_J5 at h
      exact hK23 _ (lh hk rfl (rg (sp 2 rfl (evn (hN _ _ h (okr rfl))))))
     rcases cond_some h with ⟨g29, h⟩ | ⟨g29, h⟩
     ·refine qT rfl g29 (rgd (by kernel_rfl) (sd 4 rfl (?_)))
      obtain ⟨v30, g31, h⟩ := ob_some h
      refine ed rfl (qC (qa rfl (erD eci64 _) eran) (impl_copyInts_s g31) (ed rfl (qBs c60_o [v30] rfl rfl rfl zc60_o (?_))))
      obtain ⟨g32, h⟩ := chk_some h
      exact ed rfl (qA c60_o y3 [v30] rfl rfl (flat_len zc60_o [v30]) rfl g32 (sd 3 rfl (evdn (kJ5 h _ (okr rfl)))))
     ·exact qF rfl g29 (ls_skip (kJ5 h _ (okr rfl)))
    refine sp 2 rfl (?_)
    obtain ⟨v33, g34, h⟩ := ob_some h
    refine qC (qa rfl (erg (erc rfl (erc (erD ec60_o _) rfl))) (qa rfl (erD eci64 _) eran)) (impl_ContainsRow_s g34) (sp 1 rfl (?_))
    rcases cond_some h with ⟨g35, h⟩ | ⟨g35, h⟩
    ·refine qg 64 g35 rfl (sp 3 rfl (?_))
     obtain ⟨v36, g37, h⟩ := ob_some h
     exact oGR rfl rfl (qC (qa rfl (erg (erc rfl (erc (erD ec60_d _) rfl))) (qa rfl (erD eci64 _) eran)) (impl_ContainsRow_s g37) (sp 2 rfl (evn (kJ4 h _ (okr rfl)))))
    ·exact qg 64 g35 rfl (sp 6 rfl (evn (kJ4 h _ (okr rfl))))
   ·exact qF rfl g22 (ls_exit (kXB3 (Option.some.inj h) _ (okr rfl)))
  refine ls_rec (fun (s : (List (List Int)) × Int) => match s with | (y1, y2) => [(3, .box [.str a1.1, nI a1.2.1.1, dL c60_d a1.2.1.2, nI a1.2.2.1, dL c60_d a1.2.2.2]), (4, .box [.str [], nI 0, oL 60 c60_o [], nI 0, oL 60 c60_o []]), (6, .box [nI v1.1.1, dL c60_o v1.1.2]), (8, .box [.str a1.1, nI v1.1.1, oL 60 c60_o y1, nI v1.1.1, oL 60 c60_o []]), (33, dL c60_d a1.2.1.2), (34, nI (List.length a1.2.1.2 : Int)), (35, nI y2)]) _ _ _ _ hl (okr rfl) (fun _ => rfl) ?_
  rintro m ⟨y1, y2⟩ N h hN
  unfold impl_NormalizeDelta_B1 at h
  dsimp only at h
  refine rn 1 rfl (ls_seq_k fun K7 hK7 => ?_)
  rcases cond_some h with ⟨g8, h⟩ | ⟨g8, h⟩
  ·refine qT rfl g8 (ls_skip (hK7 _ (ls_seq_k fun K9 hK9 => ls_blk (rs ?_))))
   obtain ⟨e10, g11, h⟩ := ob_some h
   refine qI rfl zc60_d g11 (sp 2 rfl (evn (rs (sp 2 rfl (?_)))))
   obtain ⟨v12, g13, h⟩ := ob_some h
   refine qC (qa rfl (erg (erc rfl (erc (erD ec60_o _) rfl))) (qa rfl (erD eci64 _) eran)) (impl_ContainsRow_s g13) (sp 1 rfl (evn ?_))
   have kJ2 : ∀ {x14 : List (List Int)}, impl_NormalizeDelta_J2 (loopF (impl_NormalizeDelta_B1 a1 v1) m) y2 x14 = some o1 → Jn K9 [(3, .box [.str a1.1, nI a1.2.1.1, dL c60_d a1.2.1.2, nI a1.2.2.1, dL c60_d a1.2.2.2]), (4, .box [.str [], nI 0, oL 60 c60_o [], nI 0, oL 60 c60_o []]), (6, .box [nI v1.1.1, dL c60_o v1.1.2]), (8, .box [.str a1.1, nI v1.1.1, oL 60 c60_o x14, nI v1.1.1, oL 60 c60_o []]), (33, dL c60_d a1.2.1.2), (34, nI (List.length a1.2.1.2 : Int)), (35, nI y2)] := by
    intro x14 h σ' hk
    unfold impl_NormalizeDelta_J2 at h
    exact hK9 _ (lh hk rfl (rg (sp 2 rfl (evn (hN _ _ h (okr rfl))))))
   rcases cond_some h with ⟨g15, h⟩ | ⟨g15, h⟩
   ·refine qT rfl g15 (rgd (by kernel_rfl) (sd 4 rfl (?_)))
    obtain ⟨v16, g17, h⟩ := ob_some h
    refine ed rfl (qC (qa rfl (erD eci64 _) eran) (impl_copyInts_s g17) (ed rfl (qBs c60_o [v16] rfl rfl rfl zc60_o (?_))))
    obtain ⟨g18, h⟩ := chk_some h
    exact ed rfl (qA c60_o y1 [v16] rfl rfl (flat_len zc60_o [v16]) rfl g18 (sd 3 rfl (evdn (kJ2 h _ (okr rfl)))))
   ·exact qF rfl g15 (ls_skip (kJ2 h _ (okr rfl)))
  ·exact qF rfl g8 (ls_exit (kXB1 (Option.some.inj h) _ (okr rfl)))
def impl_Difference_J2 (rec : ((List (List Int)) × Int) → Option ((List (List Int)))) (y2 : Int) (x18 : List (List Int)) : Option ((List (List Int))) := rec (x18, (IntKind.i64.wrap (y2 + 1)))
def impl_Difference_B1 (a0 : Y28) (a1 : Y28) (rec : ((List (List Int)) × Int) → Option ((List (List Int)))) (s : (List (List Int)) × Int) : Option ((List (List Int))) := match s with
  | (y1, y2) => cond (decide (y2 < (List.length a0.2 : Int))) (obind (geti a0.2 y2) fun e14 => obind (impl_ContainsRow a1 e14) fun v16 => cond (!v16) (obind (impl_copyInts e14) fun v20 => chk (List.length y1 + List.length [v20] ≤ lim) (impl_Difference_J2 rec y2 (y1 ++ [v20]))) (impl_Difference_J2 rec y2 y1)) (some y1)
def impl_Difference (a0 : Y28) (a1 : Y28) : Option (Y28 × Bool) := obind (impl_IsValidRelation a0) fun v2 => cond (!v2) (some ((0, []), false)) (obind (impl_IsValidRelation a1) fun v5 => cond (!v5) (some ((0, []), false)) (cond (a0.1 != a1.1) (some ((0, []), false)) (obind (loopF (impl_Difference_B1 a0 a1) fz (([] : List (List Int)), 0)) fun z10 => some ((a0.1, z10), true))))
theorem impl_Difference_s {a0 : Y28} {a1 : Y28} {r : Y28 × Bool} (h : impl_Difference a0 a1 = some r) : SoundAt Try.prog 95 [.agg (c29_dd a0), .agg (c29_dd a1)] (.tup [.agg (c29_oo r.1), .bool r.2]) := by
 unfold impl_Difference at h
 refine st lit95 rfl (rn 1 rfl (ls_seq_k fun K1 hK1 => rs (sp 1 rfl (?_))))
 obtain ⟨v2, g3, h⟩ := ob_some h
 refine qC (qa rfl (erg (erc rfl (erc (erD ec60_d _) rfl))) eran) (impl_IsValidRelation_s g3) (sp 2 rfl (?_))
 rcases cond_some h with ⟨g4, h⟩ | ⟨g4, h⟩
 ·exact qg 12 g4 rfl (sp 11 rfl (evn (qT rfl rfl (rn 1 rfl (ls_ret ((by cases h; exact ⟨.inl rfl, rfl⟩)))))))
 ·refine qg 12 g4 rfl (sp 1 rfl (?_))
  obtain ⟨v5, g6, h⟩ := ob_some h
  refine oGR rfl rfl (qC (qa rfl (erg (erc rfl (erc (erD ec60_d _) rfl))) eran) (impl_IsValidRelation_s g6) (sp 3 rfl (?_)))
  rcases cond_some h with ⟨g7, h⟩ | ⟨g7, h⟩
  ·exact qg 17 g7 rfl (sp 6 rfl (evn (qk [2, 3, 4, 23] rfl (qT rfl rfl (rn 1 rfl (ls_ret ((by cases h; exact ⟨.inl rfl, rfl⟩))))))))
  ·refine qg 17 g7 rfl (sp 6 rfl (evn ?_))
   rcases cond_some h with ⟨g8, h⟩ | ⟨g8, h⟩
   ·exact qT rfl g8 (rn 1 rfl (ls_ret ((by cases h; exact ⟨.inl rfl, rfl⟩))))
   ·refine qF rfl g8 (ls_skip (hK1 _ (rn 1 rfl (ls_seq_k fun K9 hK9 => rn 1 rfl ?_))))
    obtain ⟨o1, hl, hr1⟩ := ob_some h
    have kXB1 : ∀ {z10 : List (List Int)}, z10 = o1 → Jn K9 [(4, .box [nI 0, oL 60 c60_o []]), (6, .box [nI a0.1, oL 60 c60_o z10])] := by
     intro z10 h σ' hk
     subst h
     replace h := hr1
     try dsimp only at h
     exact hK9 _ (lh hk rfl (rn 1 rfl (ls_ret ((by cases h; exact ⟨.inl rfl, rfl⟩)))))
    refine ls_rec (fun (s : (List (List Int)) × Int) => match s with | (y1, y2) => [(3, .box [nI a1.1, dL c60_d a1.2]), (4, .box [nI 0, oL 60 c60_o []]), (6, .box [nI a0.1, oL 60 c60_o y1]), (29, dL c60_d a0.2), (30, nI (List.length a0.2 : Int)), (31, nI y2)]) _ _ _ _ hl (okr rfl) (fun _ => rfl) ?_
    rintro m ⟨y1, y2⟩ N h hN
    unfold impl_Difference_B1 at h
    dsimp only at h
    refine rn 1 rfl (ls_seq_k fun K11 hK11 => ?_)
    rcases cond_some h with ⟨g12, h⟩ | ⟨g12, h⟩
    ·refine qT rfl g12 (ls_skip (hK11 _ (ls_seq_k fun K13 hK13 => ls_blk (rs ?_))))
     obtain ⟨e14, g15, h⟩ := ob_some h
     refine qI rfl zc60_d g15 (sp 2 rfl (evn (rs (sp 2 rfl (?_)))))
     obtain ⟨v16, g17, h⟩ := ob_some h
     refine qC (qa rfl (erg (erc rfl (erc (erD ec60_d _) rfl))) (qa rfl (erD eci64 _) eran)) (impl_ContainsRow_s g17) (sp 1 rfl (evn ?_))
     have kJ2 : ∀ {x18 : List (List Int)}, impl_Difference_J2 (loopF (impl_Difference_B1 a0 a1) m) y2 x18 = some o1 → Jn K13 [(3, .box [nI a1.1, dL c60_d a1.2]), (4, .box [nI 0, oL 60 c60_o []]), (6, .box [nI a0.1, oL 60 c60_o x18]), (29, dL c60_d a0.2), (30, nI (List.length a0.2 : Int)), (31, nI y2)] := by
      intro x18 h σ' hk
      unfold impl_Difference_J2 at h
      exact hK13 _ (lh hk rfl (rg (sp 2 rfl (evn (hN _ _ h (okr rfl))))))
     rcases cond_some h with ⟨g19, h⟩ | ⟨g19, h⟩
     ·refine qT rfl g19 (rgd (by kernel_rfl) (sd 3 rfl (?_)))
      obtain ⟨v20, g21, h⟩ := ob_some h
      refine ed rfl (qC (qa rfl (erD eci64 _) eran) (impl_copyInts_s g21) (ed rfl (qBs c60_o [v20] rfl rfl rfl zc60_o (?_))))
      obtain ⟨g22, h⟩ := chk_some h
      exact ed rfl (qA c60_o y1 [v20] rfl rfl (flat_len zc60_o [v20]) rfl g22 (sd 2 rfl (evdn (kJ2 h _ (okr rfl)))))
     ·exact qF rfl g19 (ls_skip (kJ2 h _ (okr rfl)))
    ·exact qF rfl g12 (ls_exit (kXB1 (Option.some.inj h) _ (okr rfl)))
def impl_sorted_J5 (rec : ((List (Nat × (List Int))) × (List (Nat × (List Int))) × (List (Nat × (List Int)))) → Option ((List (Nat × (List Int))))) (y2 : List (Nat × (List Int))) (x20 : List (Nat × (List Int))) (x24 : List (Nat × (List Int))) : Option ((List (Nat × (List Int)))) := chk ((0 : Int) ≤ 1 ∧ 1 ≤ (List.length y2 : Int) ∧ (List.length y2 : Int) ≤ (List.length y2 : Int)) (rec (x20, (subl y2 1 (List.length y2 : Int)), x24))
def impl_sorted_J4 (rec : ((List (Nat × (List Int))) × (List (Nat × (List Int))) × (List (Nat × (List Int)))) → Option ((List (Nat × (List Int))))) (y2 : List (Nat × (List Int))) (x18 : Int) (x20 : List (Nat × (List Int))) (x21 : List (Nat × (List Int))) : Option ((List (Nat × (List Int)))) := cond (decide (0 ≤ x18)) (cond (decide (0 < x18)) (obind (geti y2 0) fun e27 => chk (List.length x21 + List.length [e27] ≤ lim) (impl_sorted_J5 rec y2 x20 (x21 ++ [e27]))) (impl_sorted_J5 rec y2 x20 x21)) (rec (x20, y2, x21))
def impl_sorted_J3 (rec : ((List (Nat × (List Int))) × (List (Nat × (List Int))) × (List (Nat × (List Int)))) → Option ((List (Nat × (List Int))))) (y1 : List (Nat × (List Int))) (y2 : List (Nat × (List Int))) (y3 : List (Nat × (List Int))) (x18 : Int) : Option ((List (Nat × (List Int)))) := cond (decide (x18 ≤ 0)) (obind (geti y1 0) fun e31 => chk (List.length y3 + List.length [e31] ≤ lim) (chk ((0 : Int) ≤ 1 ∧ 1 ≤ (List.length y1 : Int) ∧ (List.length y1 : Int) ≤ (List.length y1 : Int)) (impl_sorted_J4 rec y2 x18 (subl y1 1 (List.length y1 : Int)) (y3 ++ [e31])))) (impl_sorted_J4 rec y2 x18 y1 y3)
def impl_sorted_J2 (rec : ((List (Nat × (List Int))) × (List (Nat × (List Int))) × (List (Nat × (List Int)))) → Option ((List (Nat × (List Int))))) (y1 : List (Nat × (List Int))) (y2 : List (Nat × (List Int))) (y3 : List (Nat × (List Int))) (x15 : Bool) : Option ((List (Nat × (List Int)))) := cond x15 (cond ((List.length y1 : Int) == 0) (impl_sorted_J3 rec y1 y2 y3 1) (cond (decide (0 < (List.length y2 : Int))) (obind (geti y1 0) fun e37 => obind (geti y2 0) fun e39 => obind (impl_CompareRows e37.2 e39.2) fun v41 => impl_sorted_J3 rec y1 y2 y3 v41) (impl_sorted_J3 rec y1 y2 y3 (-1)))) (some y3)
def impl_sorted_B1  (rec : ((List (Nat × (List Int))) × (List (Nat × (List Int))) × (List (Nat × (List Int)))) → Option ((List (Nat × (List Int))))) (s : (List (Nat × (List Int))) × (List (Nat × (List Int))) × (List (Nat × (List Int)))) : Option ((List (Nat × (List Int)))) := match s with
  | (y1, y2, y3) => cond (decide (0 < (List.length y1 : Int))) (impl_sorted_J2 rec y1 y2 y3 true) (impl_sorted_J2 rec y1 y2 y3 (decide (0 < (List.length y2 : Int))))
def impl_sorted_R (rec : ((List (List Int))) → Option ((List (List Int)))) (a0 : (List (List Int))) : Option ((List (List Int))) := cond (decide ((List.length a0 : Int) < 2)) (obind (impl_copyRows a0) fun v3 => some v3) (chk ((0 : Int) ≤ 0 ∧ 0 ≤ IntKind.i64.wrap (Int.tdiv (List.length a0 : Int) 2) ∧ IntKind.i64.wrap (Int.tdiv (List.length a0 : Int) 2) ≤ (List.length a0 : Int)) (obind (rec (subl a0 0 (IntKind.i64.wrap (Int.tdiv (List.length a0 : Int) 2)))) fun v6 => chk ((0 : Int) ≤ IntKind.i64.wrap (Int.tdiv (List.length a0 : Int) 2) ∧ IntKind.i64.wrap (Int.tdiv (List.length a0 : Int) 2) ≤ (List.length a0 : Int) ∧ (List.length a0 : Int) ≤ (List.length a0 : Int)) (obind (rec (subl a0 (IntKind.i64.wrap (Int.tdiv (List.length a0 : Int) 2)) (List.length a0 : Int))) fun v9 => obind (loopF impl_sorted_B1 fz ((enumP 0 v6), (enumP (List.length v6) v9), ([] : List (Nat × (List Int))))) fun z12 => chk (okJ (v6 ++ v9) (List.map Sum.inl z12) [] = true) (some (List.map getM (List.map Sum.inl z12))))))
def impl_sorted (a0 : List (List Int)) : Option ((List (List Int))) := loopF impl_sorted_R fz a0
theorem impl_sorted_s {a0 : List (List Int)} {r : (List (List Int))} (h : impl_sorted a0 = some r) : SoundAt Try.prog 158 [dL c60_d a0] (oL 60 c60_o r) := by
 suffices key : ∀ mF (a0 : List (List Int)) (r : (List (List Int))), loopF impl_sorted_R mF a0 = some r → SoundAt Try.prog 158 [dL c60_d a0] (oL 60 c60_o r) from key fz a0 r h
 intro mF
 induction mF with
 | zero => intro a0 r h; cases h
 | succ mF ih0 =>
  intro a0 r h
  have ih : ∀ {a0 : List (List Int)} {r : (List (List Int))}, loopF impl_sorted_R mF a0 = some r → SoundAt Try.prog 158 [dL c60_d a0] (oL 60 c60_o r) := fun h => ih0 _ _ h
  change impl_sorted_R (loopF impl_sorted_R mF) a0 = some r at h
  unfold impl_sorted_R at h
  try dsimp only at h
  refine st lit158 rfl (rn 1 rfl (ls_seq_k fun K1 hK1 => rn 1 rfl ?_))
  rcases cond_some h with ⟨g2, h⟩ | ⟨g2, h⟩
  ·refine qT rfl g2 (rs (sp 1 rfl (?_)))
   obtain ⟨v3, g4, h⟩ := ob_some h
   exact qC (qa rfl (erD ec60_d _) eran) (impl_copyRows_s g4) (sp 1 rfl (evn (ls_ret ((by cases h; exact ⟨.inl rfl, rfl⟩)))))
  ·refine qF rfl g2 (ls_skip (hK1 _ (rn 1 rfl (rd (by kernel_rfl) (sd 2 rfl (?_))))))
   obtain ⟨g5, h⟩ := chk_some h
   refine ed rfl (qSl rfl zc60_d g5 (?_))
   obtain ⟨v6, g7, h⟩ := ob_some h
   refine ed rfl (qC (qa rfl (erD ec60_d _) eran) (ih g7) (sd 2 rfl (?_)))
   obtain ⟨g8, h⟩ := chk_some h
   refine ed rfl (qSl rfl zc60_d g8 (?_))
   obtain ⟨v9, g10, h⟩ := ob_some h
   refine ed rfl (qC (qa rfl (erD ec60_d _) eran) (ih g10) (sd 2 rfl (evdn (qk [4, 5] rfl (ls_split2 (f := c60_o) (s1 := 4) (s2 := 5) (g1 := 900001) (g2 := 900002) rfl rfl rfl rfl ⟨by decide, by decide, by decide, by decide, by decide, by decide⟩ (split_own (fun _ => rfl)) (split_own (fun _ => rfl)) (fun _ => rfl) (fun _ => rfl) (fun _ => rfl) (fun _ => rfl) ?_)))))
   intro U us1 us2 hu1 hu2 hU
   refine kp [(4, oL 60 (pE c60_o U) (enumP 0 v6)), (5, oL 60 (pE c60_o U) (enumP (List.length v6) v9)), (900001, .gh us1 (List.map (fun x => tokC (c60_o x)) v6)), (900002, .gh us2 (List.map (fun x => tokC (c60_o x)) v9))] rfl rfl (rn 1 rfl (ls_seq_k fun K11 hK11 => ?_))
   obtain ⟨o1, hl, hr1⟩ := ob_some h
   have kXB1 : ∀ {z12 : List (Nat × (List Int))}, z12 = o1 → Jn K11 [(6, oL 60 (pE c60_o U) z12), (900001, .gh us1 (List.map (fun x => tokC (c60_o x)) v6)), (900002, .gh us2 (List.map (fun x => tokC (c60_o x)) v9))] := by
    intro z12 h σ' hk
    subst h
    replace h := hr1
    try dsimp only at h
    refine hK11 _ (lh hk rfl (qk [6, 900001, 900002] rfl ?_))
    obtain ⟨g44, h⟩ := chk_some h
    exact ls_merge (g1 := 900001) (g2 := 900002) rfl rfl (by decide) (ls_join1 (f := c60_o) (s := 6) (q := 900001) (l := v6 ++ v9) (U := U) (L := List.map Sum.inl z12) own_inl rfl List.map_append.symm (by decide) (join_own (fun _ => rfl)) hU g44 rfl rfl (kp [(6, oL 60 c60_o (List.map getM (List.map Sum.inl z12)))] rfl rfl (rn 1 rfl (ls_ret ((by cases h; exact ⟨.inl rfl, rfl⟩))))))
   refine ls_rec (fun (s : (List (Nat × (List Int))) × (List (Nat × (List Int))) × (List (Nat × (List Int)))) => match s with | (y1, y2, y3) => [(4, dL (pE c60_o U) y1), (5, dL (pE c60_o U) y2), (6, oL 60 (pE c60_o U) y3), (900001, .gh us1 (List.map (fun x => tokC (c60_o x)) v6)), (900002, .gh us2 (List.map (fun x => tokC (c60_o x)) v9))]) _ _ _ _ hl ⟨(kd rfl rfl), (kd rfl rfl), kr, kr, kr, trivial⟩ (fun _ => rfl) ?_
   rintro m ⟨y1, y2, y3⟩ N h hN
   unfold impl_sorted_B1 at h
   dsimp only at h
   refine ls_seq_k fun K13 hK13 => rk fun K14 hK14 => ?_
   have kJ2 : ∀ {x15 : Bool}, impl_sorted_J2 (loopF impl_sorted_B1 m) y1 y2 y3 x15 = some o1 → Jn K14 [(4, dL (pE c60_o U) y1), (5, dL (pE c60_o U) y2), (6, oL 60 (pE c60_o U) y3), (31, .bool x15), (900001, .gh us1 (List.map (fun x => tokC (c60_o x)) v6)), (900002, .gh us2 (List.map (fun x => tokC (c60_o x)) v9))] := by
    intro x15 h σ' hk
    unfold impl_sorted_J2 at h
    refine hK14 _ (lh hk rfl ?_)
    rcases cond_some h with ⟨g16, h⟩ | ⟨g16, h⟩
    ·refine qT rfl g16 (ls_skip (hK13 _ (ls_blk (rn 1 rfl (ls_seq_k fun K17 hK17 => rn 1 rfl ?_)))))
     have kJ3 : ∀ {x18 : Int}, impl_sorted_J3 (loopF impl_sorted_B1 m) y1 y2 y3 x18 = some o1 → Jn K17 [(4, dL (pE c60_o U) y1), (5, dL (pE c60_o U) y2), (6, oL 60 (pE c60_o U) y3), (7, nI x18), (900001, .gh us1 (List.map (fun x => tokC (c60_o x)) v6)), (900002, .gh us2 (List.map (fun x => tokC (c60_o x)) v9))] := by
      intro x18 h σ' hk
      unfold impl_sorted_J3 at h
      refine hK17 _ (lh hk rfl (ls_seq_k fun K19 hK19 => rn 1 rfl ?_))
      have kJ4 : ∀ {x20 : List (Nat × (List Int))} {x21 : List (Nat × (List Int))}, impl_sorted_J4 (loopF impl_sorted_B1 m) y2 x18 x20 x21 = some o1 → Jn K19 [(4, dL (pE c60_o U) x20), (5, dL (pE c60_o U) y2), (6, oL 60 (pE c60_o U) x21), (7, nI x18), (900001, .gh us1 (List.map (fun x => tokC (c60_o x)) v6)), (900002, .gh us2 (List.map (fun x => tokC (c60_o x)) v9))] := by
       intro x20 x21 h σ' hk
       unfold impl_sorted_J4 at h
       refine hK19 _ (lh hk rfl (rn 1 rfl ?_))
       rcases cond_some h with ⟨g22, h⟩ | ⟨g22, h⟩
       ·refine qT rfl g22 (ls_seq_k fun K23 hK23 => rn 1 rfl ?_)
        have kJ5 : ∀ {x24 : List (Nat × (List Int))}, impl_sorted_J5 (loopF impl_sorted_B1 m) y2 x20 x24 = some o1 → Jn K23 [(4, dL (pE c60_o U) x20), (5, dL (pE c60_o U) y2), (6, oL 60 (pE c60_o U) x24), (900001, .gh us1 (List.map (fun x => tokC (c60_o x)) v6)), (900002, .gh us2 (List.map (fun x => tokC (c60_o x)) v9))] := by
         intro x24 h σ' hk
         unfold impl_sorted_J5 at h
         refine hK23 _ (lh hk rfl (rg (sp 1 rfl (?_))))
         obtain ⟨g25, h⟩ := chk_some h
         exact qSl rfl (zpE zc60_o) g25 (sp 1 rfl (evn (hN _ _ h (okr rfl))))
        rcases cond_some h with ⟨g26, h⟩ | ⟨g26, h⟩
        ·refine qT rfl g26 (rg (sp 2 rfl (?_)))
         obtain ⟨e27, g28, h⟩ := ob_some h
         refine qI rfl (zpE zc60_o) g28 (sp 1 rfl (qBs (pE c60_o U) [e27] rfl rfl rfl (zpE zc60_o) (?_)))
         obtain ⟨g29, h⟩ := chk_some h
         exact qA (pE c60_o U) x21 [e27] rfl rfl (flat_len (zpE zc60_o) [e27]) rfl g29 (sp 1 rfl (evn (kJ5 h _ (okr rfl))))
        ·exact qF rfl g26 (ls_skip (kJ5 h _ (okr rfl)))
       ·exact qF rfl g22 (ls_skip (hN _ _ h (okr rfl)))
      rcases cond_some h with ⟨g30, h⟩ | ⟨g30, h⟩
      ·refine qT rfl g30 (rs (sp 2 rfl (?_)))
       obtain ⟨e31, g32, h⟩ := ob_some h
       refine qI rfl (zpE zc60_o) g32 (sp 1 rfl (qBs (pE c60_o U) [e31] rfl rfl rfl (zpE zc60_o) (?_)))
       obtain ⟨g33, h⟩ := chk_some h
       refine qA (pE c60_o U) y3 [e31] rfl rfl (flat_len (zpE zc60_o) [e31]) rfl g33 (sp 1 rfl (evn (rg (sp 1 rfl (?_)))))
       obtain ⟨g34, h⟩ := chk_some h
       exact qSl rfl (zpE zc60_o) g34 (sp 1 rfl (evn (kJ4 h _ (okr rfl))))
      ·exact qF rfl g30 (ls_skip (kJ4 h _ (okr rfl)))
     rcases cond_some h with ⟨g35, h⟩ | ⟨g35, h⟩
     ·exact qT rfl g35 (rg (sp 1 rfl (evn (kJ3 h _ (okr rfl)))))
     ·refine qF rfl g35 (rn 1 rfl (qk [4, 5, 6, 7, 37, 900001, 900002] rfl ?_))
      rcases cond_some h with ⟨g36, h⟩ | ⟨g36, h⟩
      ·refine qT rfl g36 (rgd (by kernel_rfl) (sd 1 rfl (?_)))
       obtain ⟨e37, g38, h⟩ := ob_some h
       refine ed rfl (qI rfl (zpE zc60_o) g38 (sd 2 rfl (?_)))
       obtain ⟨e39, g40, h⟩ := ob_some h
       refine ed rfl (qI rfl (zpE zc60_o) g40 (sd 1 rfl (?_)))
       obtain ⟨v41, g42, h⟩ := ob_some h
       exact ed rfl (qC (qa rfl (erP eci64 eci64 _) (qa rfl (erP eci64 eci64 _) eran)) (impl_CompareRows_s g42) (sd 1 rfl (evdn (kJ3 h _ (okr rfl)))))
      ·exact qF rfl g36 (ls_skip (kJ3 h _ (okr rfl)))
    ·exact qF rfl g16 (ls_exit (kXB1 (Option.some.inj h) _ (okr rfl)))
   refine sp 4 rfl (?_)
   rcases cond_some h with ⟨g43, h⟩ | ⟨g43, h⟩
   ·exact qg 27 g43 rfl (sp 4 rfl (evn (kJ2 h _ (okr rfl))))
   ·exact qg 27 g43 rfl (sp 4 rfl (evn (kJ2 h _ (okr rfl))))
def impl_NewRelation_B1 (a0 : Int) (a1 : List (List Int)) (rec : Int → Option (Sum (Unit) (Y28 × Bool))) (y1 : Int) : Option (Sum (Unit) (Y28 × Bool)) := cond (decide (y1 < (List.length a1 : Int))) (obind (geti a1 y1) fun e5 => cond ((List.length e5 : Int) != a0) (some (.inr ((0, []), false))) (obind (impl_AreValidValues e5) fun v8 => cond (!v8) (some (.inr ((0, []), false))) (rec (IntKind.i64.wrap (y1 + 1))))) (some (.inl ()))
def impl_NewRelation (a0 : Int) (a1 : List (List Int)) : Option (Y28 × Bool) := obind (loopF (impl_NewRelation_B1 a0 a1) fz 0) fun o1 => (match o1 with
  | .inl _ => (obind (impl_sorted a1) fun v11 => obind (impl_IsValidRelation (a0, v11)) fun v14 => cond (!v14) (some ((0, []), false)) (some ((a0, v11), true)))
  | .inr r => some r)
theorem impl_NewRelation_s {a0 : Int} {a1 : List (List Int)} {r : Y28 × Bool} (h : impl_NewRelation a0 a1 = some r) : SoundAt Try.prog 138 [nI a0, dL c60_d a1] (.tup [.agg (c29_oo r.1), .bool r.2]) := by
 unfold impl_NewRelation at h
 refine st lit138 rfl (rn 1 rfl (ls_seq_k fun K1 hK1 => rn 1 rfl ?_))
 obtain ⟨o1, hl, hr1⟩ := ob_some h
 have kXB1 : (.inl ()) = o1 → Jn K1 [(0, nI a0), (1, dL c60_d a1), (4, .box [nI 0, oL 60 c60_o []])] := by
  intro h σ' hk
  subst h
  replace h := hr1
  try dsimp only at h
  refine hK1 _ (lh hk rfl (rs (sp 2 rfl (?_))))
  obtain ⟨v11, g12, h⟩ := ob_some h
  refine qC (qa rfl (erD ec60_d _) eran) (impl_sorted_s g12) (sp 3 rfl (evn (ls_seq_k fun K13 hK13 => rs (sp 1 rfl (?_)))))
  obtain ⟨v14, g15, h⟩ := ob_some h
  refine qC (qa rfl (erg (erc rfl (erc (erD ec60_o _) rfl))) eran) (impl_IsValidRelation_s g15) (sp 1 rfl (evn ?_))
  rcases cond_some h with ⟨g16, h⟩ | ⟨g16, h⟩
  ·exact qT rfl g16 (rn 1 rfl (ls_ret ((by cases h; exact ⟨.inl rfl, rfl⟩))))
  ·exact qF rfl g16 (ls_skip (hK13 _ (rn 1 rfl (ls_ret ((by cases h; exact ⟨.inl rfl, rfl⟩))))))
 refine ls_rec (fun (y1 : Int) => [(0, nI a0), (1, dL c60_d a1), (4, .box [nI 0, oL 60 c60_o []]), (9, dL c60_d a1), (10, nI (List.length a1 : Int)), (11, nI y1)]) _ _ _ _ hl (okr rfl) (fun _ => rfl) ?_
 rintro m y1 N h hN
 unfold impl_NewRelation_B1 at h
 refine rn 1 rfl (ls_seq_k fun K2 hK2 => ?_)
 rcases cond_some h with ⟨g3, h⟩ | ⟨g3, h⟩
 ·refine qT rfl g3 (ls_skip (hK2 _ (ls_seq_k fun K4 hK4 => ls_blk (rs ?_))))
  obtain ⟨e5, g6, h⟩ := ob_some h
  refine qI rfl zc60_d g6 (sp 2 rfl (evn (rs (sp 5 rfl (?_)))))
  rcases cond_some h with ⟨g7, h⟩ | ⟨g7, h⟩
  ·exact qg 19 g7 rfl (sp 4 rfl (evn (qT rfl rfl (rn 1 rfl (ls_ret ((by cases h; cases hr1; exact ⟨.inl rfl, rfl⟩)))))))
  ·refine qg 19 g7 rfl (sp 1 rfl (?_))
   obtain ⟨v8, g9, h⟩ := ob_some h
   refine oGR rfl rfl (qC (qa rfl (erD eci64 _) eran) (impl_AreValidValues_s g9) (sp 2 rfl (evn ?_)))
   rcases cond_some h with ⟨g10, h⟩ | ⟨g10, h⟩
   ·exact qT rfl g10 (rn 1 rfl (qk [4, 5] rfl (ls_ret ((by cases h; cases hr1; exact ⟨.inl rfl, rfl⟩)))))
   ·exact qF rfl g10 (ls_skip (hK4 _ (rg (sp 2 rfl (evn (hN _ _ h (okr rfl)))))))
 ·exact qF rfl g3 (ls_exit (kXB1 (Option.some.inj h) _ (okr rfl)))
def impl_Union (a0 : Y28) (a1 : Y28) : Option (Y28 × Bool) := obind (impl_IsValidRelation a0) fun v2 => cond (!v2) (some ((0, []), false)) (obind (impl_IsValidRelation a1) fun v5 => cond (!v5) (some ((0, []), false)) (cond (a0.1 != a1.1) (some ((0, []), false)) (obind (impl_copyRows a0.2) fun v9 => chk (List.length v9 + List.length a1.2 ≤ lim) (obind (impl_NewRelation a0.1 (v9 ++ a1.2)) fun v12 => some (v12.1, v12.2)))))
theorem impl_Union_s {a0 : Y28} {a1 : Y28} {r : Y28 × Bool} (h : impl_Union a0 a1 = some r) : SoundAt Try.prog 96 [.agg (c29_dd a0), .agg (c29_dd a1)] (.tup [.agg (c29_oo r.1), .bool r.2]) := by
 unfold impl_Union at h
 refine st lit96 rfl (rn 1 rfl (ls_seq_k fun K1 hK1 => rs (sp 1 rfl (?_))))
 obtain ⟨v2, g3, h⟩ := ob_some h
 refine qC (qa rfl (erg (erc rfl (erc (erD ec60_d _) rfl))) eran) (impl_IsValidRelation_s g3) (sp 2 rfl (?_))
 rcases cond_some h with ⟨g4, h⟩ | ⟨g4, h⟩
 ·exact qg 9 g4 rfl (sp 11 rfl (evn (qT rfl rfl (rn 1 rfl (ls_ret ((by cases h; exact ⟨.inl rfl, rfl⟩)))))))
 ·refine qg 9 g4 rfl (sp 1 rfl (?_))
  obtain ⟨v5, g6, h⟩ := ob_some h
  refine oGR rfl rfl (qC (qa rfl (erg (erc rfl (erc (erD ec60_d _) rfl))) eran) (impl_IsValidRelation_s g6) (sp 3 rfl (?_)))
  rcases cond_some h with ⟨g7, h⟩ | ⟨g7, h⟩
  ·exact qg 14 g7 rfl (sp 6 rfl (evn (qk [2, 3, 4, 20] rfl (qT rfl rfl (rn 1 rfl (ls_ret ((by cases h; exact ⟨.inl rfl, rfl⟩))))))))
  ·refine qg 14 g7 rfl (sp 6 rfl (evn ?_))
   rcases cond_some h with ⟨g8, h⟩ | ⟨g8, h⟩
   ·exact qT rfl g8 (rn 1 rfl (ls_ret ((by cases h; exact ⟨.inl rfl, rfl⟩))))
   ·refine qF rfl g8 (ls_skip (hK1 _ (rd (by kernel_rfl) (sd 4 rfl (?_)))))
    obtain ⟨v9, g10, h⟩ := ob_some h
    refine ed rfl (qC (qa rfl (erD ec60_d _) eran) (impl_copyRows_s g10) (sd 2 rfl (?_)))
    obtain ⟨g11, h⟩ := chk_some h
    refine ed rfl (qAd c60_o c60_d c60_d v9 a1.2 rfl rfl (flat_len zc60_d a1.2) (map_dg (fun _ => rfl) _) g11 (fun _ => rfl) (fun _ => rfl) (fun _ => rfl) (fun _ => rfl) (?_))
    obtain ⟨v12, g13, h⟩ := ob_some h
    exact ed rfl (qC (qs rfl (qa rfl (erO ec60_d _) eran)) (impl_NewRelation_s g13) (sd 4 rfl (evdn (ls_ret ((by cases h; exact ⟨.inl rfl, rfl⟩))))))
theorem bkc60_d (x : List Int) : argAbleL (c60_d x) = true := (bcc (ableD (fun _ => rfl) _) rfl)
theorem vkc60_d (x : List Int) : argVL (c60_d x) = c60_a x := (vcc (argD (fun _ => rfl) _) rfl)
theorem bkc83_dd (x : Y82) : argAbleL (c83_dd x) = true := (bcc rfl (bcc rfl (bcc (ableD bkc60_d _) rfl)))
theorem vkc83_dd (x : Y82) : argVL (c83_dd x) = c83_aa x := (vcc rfl (vcc rfl (vcc (argD vkc60_d _) rfl)))
def impl_SetRelation_B1 (a1 : List UInt8) (v7 : (List Y82)) (rec : Int → Option (Int)) (y1 : Int) : Option (Int) := cond (decide (y1 < (List.length v7 : Int))) (obind (geti v7 y1) fun e13 => cond (Op.bytesLess e13.1 a1) (rec (IntKind.i64.wrap (y1 + 1))) (some y1)) (some y1)
def impl_SetRelation_J3 (a0 : List Y82) (x21 : List Y82) : Option ((List Y82) × Bool) := obind (impl_IsValidDatabase x21) fun v23 => cond (!v23) (obind (impl_copyDatabase a0) fun v26 => some (v26, false)) (some (x21, true))
def impl_SetRelation_J2 (a0 : List Y82) (a1 : List UInt8) (v7 : (List Y82)) (z10 : Int) (v16 : Y28) (x20 : Bool) : Option ((List Y82) × Bool) := cond x20 (chk (0 < List.length v7) (obind (geti v7 z10) fun e31 => impl_SetRelation_J3 a0 (seti v7 z10 (a1, v16)))) (chk ((0 : Int) ≤ 0 ∧ 0 ≤ z10 ∧ z10 ≤ (List.length (enumP 0 v7) : Int)) (chk (List.length ([] : List (Nat × Y82)) + List.length (subl (enumP 0 v7) 0 z10) ≤ lim) (chk (List.length (inlM (([] : List (Nat × Y82)) ++ (subl (enumP 0 v7) 0 z10))) + List.length (inrM ([(a1, v16)] : List Y82)) ≤ lim) (chk ((0 : Int) ≤ z10 ∧ z10 ≤ (List.length (enumP 0 v7) : Int) ∧ (List.length (enumP 0 v7) : Int) ≤ (List.length (enumP 0 v7) : Int)) (chk (List.length ((inlM (([] : List (Nat × Y82)) ++ (subl (enumP 0 v7) 0 z10))) ++ (inrM ([(a1, v16)] : List Y82))) + List.length (inlM (subl (enumP 0 v7) z10 (List.length (enumP 0 v7) : Int))) ≤ lim) (chk (okJ (v7) (((inlM (([] : List (Nat × Y82)) ++ (subl (enumP 0 v7) 0 z10))) ++ (inrM ([(a1, v16)] : List Y82))) ++ (inlM (subl (enumP 0 v7) z10 (List.length (enumP 0 v7) : Int)))) [] = true) (impl_SetRelation_J3 a0 (List.map getM (((inlM (([] : List (Nat × Y82)) ++ (subl (enumP 0 v7) 0 z10))) ++ (inrM ([(a1, v16)] : List Y82))) ++ (inlM (subl (enumP 0 v7) z10 (List.length (enumP 0 v7) : Int))))))))))))
def impl_SetRelation (a0 : List Y82) (a1 : List UInt8) (a2 : Y28) : Option ((List Y82) × Bool) := obind (impl_IsValidDatabase a0) fun v2 => cond (!v2) (obind (impl_copyDatabase a0) fun v5 => some (v5, false)) (obind (impl_copyDatabase a0) fun v7 => obind (loopF (impl_SetRelation_B1 a1 v7) fz 0) fun z10 => obind (impl_copyRelation a2) fun v16 => cond (decide (z10 < (List.length v7 : Int))) (obind (geti v7 z10) fun e40 => impl_SetRelation_J2 a0 a1 v7 z10 v16 (e40.1 == a1)) (impl_SetRelation_J2 a0 a1 v7 z10 v16 false))
theorem impl_SetRelation_s {a0 : List Y82} {a1 : List UInt8} {a2 : Y28} {r : (List Y82) × Bool} (h : impl_SetRelation a0 a1 a2 = some r) : SoundAt Try.prog 97 [.agg [dL c83_dd a0], .str a1, .agg (c29_dd a2)] (.tup [.agg [oL 83 c83_oo r.1], .bool r.2]) := by
 unfold impl_SetRelation at h
 refine sta lit97 rfl (aall (bcc (ableD bkc83_dd _) rfl) (aall rfl (aall (bcc rfl (bcc (ableD bkc60_d _) rfl)) rfl))) (mvv (vag (vcc (argD vkc83_dd _) rfl)) (mvv rfl (mvv (vag (vcc rfl (vcc (argD vkc60_d _) rfl))) rfl))) (dcc (dag (dcc (dco dkc83_oo 83 _) dcn)) (dcc rfl dcn)) (rn 1 rfl (ls_seq_k fun K1 hK1 => rs (sp 1 rfl (?_))))
 obtain ⟨v2, g3, h⟩ := ob_some h
 refine qC (qa rfl (erg (erc (erG ec83_aa _) rfl)) eran) (impl_IsValidDatabase_s g3) (sp 1 rfl (evn ?_))
 rcases cond_some h with ⟨g4, h⟩ | ⟨g4, h⟩
 ·refine qT rfl g4 (rs (sp 1 rfl (?_)))
  obtain ⟨v5, g6, h⟩ := ob_some h
  exact qC (qa rfl (erg (erc (erG ec83_aa _) rfl)) eran) (impl_copyDatabase_s g6) (sp 2 rfl (evn (ls_ret ((by cases h; exact ⟨.inl rfl, rfl⟩)))))
 ·refine qF rfl g4 (ls_skip (hK1 _ (rs (sp 1 rfl (?_)))))
  obtain ⟨v7, g8, h⟩ := ob_some h
  refine qC (qa rfl (erg (erc (erG ec83_aa _) rfl)) eran) (impl_copyDatabase_s g8) (sp 2 rfl (evn (rn 1 rfl (ls_seq_k fun K9 hK9 => ?_))))
  obtain ⟨o1, hl, hr1⟩ := ob_some h
  have kXB1 : ∀ {z10 : Int}, z10 = o1 → Jn K9 [(1, .str a1), (3, .box [aL c83_aa a0]), (5, .box [nI a2.1, aL c60_a a2.2]), (6, .box [oL 83 c83_oo []]), (8, .box [oL 83 c83_oo v7]), (9, nI z10)] := by
   intro z10 h σ' hk
   subst h
   replace h := hr1
   try dsimp only at h
   refine hK9 _ (lh hk rfl (rs (sp 2 rfl (?_))))
   obtain ⟨v16, g17, h⟩ := ob_some h
   refine qC (qa rfl (erg (erc rfl (erc (erG ec60_a _) rfl))) eran) (impl_copyRelation_s g17) (sp 3 rfl (evn (ls_seq_k fun K18 hK18 => rk fun K19 hK19 => ?_)))
   have kJ2 : ∀ {x20 : Bool}, impl_SetRelation_J2 a0 a1 v7 z10 v16 x20 = some r → Jn K19 [(3, .box [aL c83_aa a0]), (6, .box [oL 83 c83_oo []]), (8, .box [oL 83 c83_oo v7]), (9, nI z10), (10, .box [.str a1, nI v16.1, oL 60 c60_o v16.2]), (53, .bool x20)] := by
    intro x20 h σ' hk
    unfold impl_SetRelation_J2 at h
    refine hK19 _ (lh hk rfl ?_)
    have kJ3 : ∀ {x21 : List Y82}, impl_SetRelation_J3 a0 x21 = some r → Jn K18 [(3, .box [aL c83_aa a0]), (6, .box [oL 83 c83_oo []]), (8, .box [oL 83 c83_oo x21])] := by
     intro x21 h σ' hk
     unfold impl_SetRelation_J3 at h
     refine hK18 _ (lh hk rfl (ls_seq_k fun K22 hK22 => rs (sp 1 rfl (?_))))
     obtain ⟨v23, g24, h⟩ := ob_some h
     refine qC (qa rfl (erg (erc (erD ec83_oo _) rfl)) eran) (impl_IsValidDatabase_s g24) (sp 1 rfl (evn ?_))
     rcases cond_some h with ⟨g25, h⟩ | ⟨g25, h⟩
     ·refine qT rfl g25 (rs (sp 1 rfl (?_)))
      obtain ⟨v26, g27, h⟩ := ob_some h
      exact qC (qa rfl (erg (erc (erG ec83_aa _) rfl)) eran) (impl_copyDatabase_s g27) (sp 2 rfl (evn (ls_ret ((by cases h; exact ⟨.inl rfl, rfl⟩)))))
     ·exact qF rfl g25 (ls_skip (hK22 _ (rn 1 rfl (ls_ret ((by cases h; exact ⟨.inl rfl, rfl⟩))))))
    rcases cond_some h with ⟨g28, h⟩ | ⟨g28, h⟩
    ·refine qT rfl g28 (qk [3, 6, 8, 9, 10] rfl ?_)
     obtain ⟨g29, h⟩ := chk_some h
     refine ls_hg (gLb (q := 900003) (b := 8) [] [] rfl rfl rfl g29 ?_)
     intro gg30 mm30
     refine qk [3, 6, 8, 9, 10, 900003] rfl (ls_gh (rg (sp 4 rfl (?_))))
     obtain ⟨e31, g32, h⟩ := ob_some h
     refine qIt rfl rfl rfl rfl g32 (?_)
     refine qSt (y0 := e31) (i := z10) (es := 3) 0 (a1, v16) [3, 6, 8] rfl rfl rfl rfl rfl rfl rfl rfl rfl rfl zc83_oo g32 (fun x => sdL (dkc83_oo x)) (sdL (dcc rfl (dcc rfl (dcc (dco dkc60_o 60 _) dcn)))) (yc (snc (sA (aca gkc83_aa _)) rfl) (yc (snc rfl rfl) (yc (snc rfl rfl) yn))) (?_)
     exact evn (gDb (q := 900003) (b := 8) [] [] rfl rfl rfl (sl rfl) (kJ3 h _ (okr rfl)))
    ·refine qF rfl g28 (qk [3, 6, 8, 9, 10] rfl (ls_hg (gSb (f := c83_oo) (l := v7) (q := 900001) (b := 8) [] [] rfl rfl rfl (fun _ => rfl) ?_)))
     intro U us1 hU
     refine qk [3, 6, 8, 9, 10, 900001] rfl (ls_gh (rgd (by kernel_rfl) (ed rfl (qBs c83_oo [] rfl rfl rfl zc83_oo (sd 3 rfl (?_))))))
     obtain ⟨g33, h⟩ := chk_some h
     refine ed rfl (qSl rfl (zpE zc83_oo) g33 (?_))
     obtain ⟨g34, h⟩ := chk_some h
     refine ed rfl (qA (pE c83_oo U) ([] : List (Nat × Y82)) (subl (enumP 0 v7) 0 z10) rfl rfl (flat_len (zpE zc83_oo) (subl (enumP 0 v7) 0 z10)) (map_dgp _) g34 (sd 1 rfl (ed rfl (qBs c83_oo [(a1, v16)] rfl rfl rfl zc83_oo (?_)))))
     obtain ⟨g35, h⟩ := chk_some h
     refine ed rfl (qA2 (mE c83_oo U) (inlM (([] : List (Nat × Y82)) ++ (subl (enumP 0 v7) 0 z10))) (inrM ([(a1, v16)] : List Y82)) rfl rfl (flat_len zc83_oo [(a1, v16)]) l_inl c_inl l_inr c_inr g35 (sd 3 rfl (?_)))
     obtain ⟨g36, h⟩ := chk_some h
     refine ed rfl (qSl rfl (zpE zc83_oo) g36 (?_))
     obtain ⟨g37, h⟩ := chk_some h
     refine ed rfl (qA2 (mE c83_oo U) ((inlM (([] : List (Nat × Y82)) ++ (subl (enumP 0 v7) 0 z10))) ++ (inrM ([(a1, v16)] : List Y82))) (inlM (subl (enumP 0 v7) z10 (List.length (enumP 0 v7) : Int))) rfl rfl (flat_len (zpE zc83_oo) (subl (enumP 0 v7) z10 (List.length (enumP 0 v7) : Int))) rfl rfl l_inl ((map_dgp _).trans c_inl) g37 (sd 2 rfl (evdn ?_)))
     obtain ⟨g38, h⟩ := chk_some h
     exact gJb (f := c83_oo) (l := v7) (q := 900001) (b := 8) [] [] (((inlM (([] : List (Nat × Y82)) ++ (subl (enumP 0 v7) 0 z10))) ++ (inrM ([(a1, v16)] : List Y82))) ++ (inlM (subl (enumP 0 v7) z10 (List.length (enumP 0 v7) : Int)))) rfl rfl rfl rfl (fun _ => rfl) hU g38 (kJ3 h _ (okr rfl))
   refine sp 6 rfl (?_)
   rcases cond_some h with ⟨g39, h⟩ | ⟨g39, h⟩
   ·refine qg 44 g39 rfl (sp 3 rfl (?_))
    obtain ⟨e40, g41, h⟩ := ob_some h
    exact oGR rfl rfl (qI rfl zc83_oo g41 (sp 5 rfl (evn (kJ2 h _ (okr rfl)))))
   ·exact qg 44 g39 rfl (sp 9 rfl (evn (kJ2 h _ (okr rfl))))
  refine ls_rec (fun (y1 : Int) => [(1, .str a1), (3, .box [aL c83_aa a0]), (5, .box [nI a2.1, aL c60_a a2.2]), (6, .box [oL 83 c83_oo []]), (8, .box [oL 83 c83_oo v7]), (9, nI y1)]) _ _ _ _ hl (okr rfl) (fun _ => rfl) ?_
  rintro m y1 N h hN
  unfold impl_SetRelation_B1 at h
  refine ls_seq_k fun K11 hK11 => rs (sp 6 rfl (?_))
  rcases cond_some h with ⟨g12, h⟩ | ⟨g12, h⟩
  ·refine qg 23 g12 rfl (sp 3 rfl (?_))
   obtain ⟨e13, g14, h⟩ := ob_some h
   refine oGR rfl rfl (qI rfl zc83_oo g14 (sp 5 rfl (evn ?_)))
   rcases cond_some h with ⟨g15, h⟩ | ⟨g15, h⟩
   ·exact qT rfl g15 (ls_skip (hK11 _ (ls_blk (rg (sp 3 rfl (evn (hN _ _ h (okr rfl))))))))
   ·exact qF rfl g15 (ls_exit (kXB1 (Option.some.inj h) _ (okr rfl)))
  ·exact qg 23 g12 rfl (sp 9 rfl (evn (qF rfl rfl (ls_exit (kXB1 (Option.some.inj h) _ (okr rfl))))))
def impl_ApplyDelta (a0 : List Y82) (a1 : Y30) : Option ((List Y82) × Bool) := obind (impl_NormalizeDelta a0 a1) fun v1 => cond (!v1.2) (obind (impl_copyDatabase a0) fun v5 => some (v5, false)) (obind (impl_LookupRelation a0 a1.1) fun v7 => obind (impl_Difference v7.1 v1.1.2.2) fun v9 => obind (impl_Union v9.1 v1.1.2.1) fun v11 => cond (!v11.2) (obind (impl_copyDatabase a0) fun v15 => some (v15, false)) (obind (impl_SetRelation a0 a1.1 v11.1) fun v17 => some (v17.1, v17.2)))
theorem impl_ApplyDelta_s {a0 : List Y82} {a1 : Y30} {r : (List Y82) × Bool} (h : impl_ApplyDelta a0 a1 = some r) : SoundAt Try.prog 42 [.agg [dL c83_dd a0], .agg (c31_dddd a1)] (.tup [.agg [oL 83 c83_oo r.1], .bool r.2]) := by
 unfold impl_ApplyDelta at h
 refine st lit42 rfl (rn 1 rfl (rs (sp 2 rfl (?_))))
 obtain ⟨v1, g2, h⟩ := ob_some h
 refine qC (qa rfl (erg (erc (erD ec83_dd _) rfl)) (qa rfl (erg (erc rfl (erc rfl (erc (erD ec60_d _) (erc rfl (erc (erD ec60_d _) rfl)))))) eran)) (impl_NormalizeDelta_s g2) (sp 6 rfl (evn (ls_seq_k fun K3 hK3 => rn 1 rfl ?_)))
 rcases cond_some h with ⟨g4, h⟩ | ⟨g4, h⟩
 ·refine qT rfl g4 (rs (sp 1 rfl (?_)))
  obtain ⟨v5, g6, h⟩ := ob_some h
  exact qC (qa rfl (erg (erc (erD ec83_dd _) rfl)) eran) (impl_copyDatabase_s g6) (sp 2 rfl (evn (ls_ret ((by cases h; exact ⟨.inl rfl, rfl⟩)))))
 ·refine qF rfl g4 (ls_skip (hK3 _ (rs (sp 3 rfl (?_)))))
  obtain ⟨v7, g8, h⟩ := ob_some h
  refine qC (qa rfl (erg (erc (erD ec83_dd _) rfl)) (qs rfl eran)) (impl_LookupRelation_s g8) (sp 6 rfl (evn (qk [2, 3, 4, 6, 8] rfl (rs (sp 3 rfl (?_))))))
  obtain ⟨v9, g10, h⟩ := ob_some h
  refine qC (qa rfl (erg (erc rfl (erc (erD ec60_o _) rfl))) (qa rfl (erg (erc rfl (erc (erD ec60_o _) rfl))) eran)) (impl_Difference_s g10) (sp 6 rfl (evn (rs (sp 3 rfl (?_)))))
  obtain ⟨v11, g12, h⟩ := ob_some h
  refine qC (qa rfl (erg (erc rfl (erc (erD ec60_o _) rfl))) (qa rfl (erg (erc rfl (erc (erD ec60_o _) rfl))) eran)) (impl_Union_s g12) (sp 6 rfl (evn (ls_seq_k fun K13 hK13 => rn 1 rfl ?_)))
  rcases cond_some h with ⟨g14, h⟩ | ⟨g14, h⟩
  ·refine qT rfl g14 (rs (sp 1 rfl (?_)))
   obtain ⟨v15, g16, h⟩ := ob_some h
   exact qC (qa rfl (erg (erc (erD ec83_dd _) rfl)) eran) (impl_copyDatabase_s g16) (sp 2 rfl (evn (ls_ret ((by cases h; exact ⟨.inl rfl, rfl⟩)))))
  ·refine qF rfl g14 (ls_skip (hK13 _ (rs (sp 4 rfl (?_)))))
   obtain ⟨v17, g18, h⟩ := ob_some h
   exact qC (qa rfl (erg (erc (erD ec83_dd _) rfl)) (qs rfl (qa rfl (erg (erc rfl (erc (erD ec60_o _) rfl))) eran))) (impl_SetRelation_s g18) (sp 4 rfl (evn (qk [4, 5] rfl (ls_ret ((by cases h; exact ⟨.inl rfl, rfl⟩))))))
def impl_AppendSnapshot (a0 : Y25) (a1 : Y30) : Option (Y25 × Bool) := obind (impl_copyHistory a0) fun v1 => obind (impl_IsValidHistory a0) fun v4 => cond (!v4) (some (v1, false)) (cond (decide (6 ≤ (List.length a0.2 : Int))) (some (v1, false)) (cond (decide (99 < (IntKind.i64.wrap (a0.1 + (List.length a0.2 : Int))))) (some (v1, false)) (obind (geti a0.2 (IntKind.i64.wrap ((List.length a0.2 : Int) - 1))) fun e9 => obind (impl_ApplyDelta e9 a1) fun v11 => cond (!v11.2) (some (v1, false)) (chk (List.length v1.2 + List.length [v11.1] ≤ lim) (some ((v1.1, v1.2 ++ [v11.1]), true))))))
theorem impl_AppendSnapshot_s {a0 : Y25} {a1 : Y30} {r : Y25 × Bool} (h : impl_AppendSnapshot a0 a1 = some r) : SoundAt Try.prog 8 [.agg (c26_dddd a0), .agg (c31_dddd a1)] (.tup [.agg (c26_oooo r.1), .bool r.2]) := by
 unfold impl_AppendSnapshot at h
 refine st lit8 rfl (rn 1 rfl (rs (sp 1 rfl (?_))))
 obtain ⟨v1, g2, h⟩ := ob_some h
 refine qC (qa rfl (erg (erc rfl (erc (erD ec39_ddd _) rfl))) eran) (impl_copyHistory_s g2) (sp 2 rfl (evn (rn 1 rfl (ls_seq_k fun K3 hK3 => rs (sp 1 rfl (?_))))))
 obtain ⟨v4, g5, h⟩ := ob_some h
 refine qC (qa rfl (erg (erc rfl (erc (erD ec39_ddd _) rfl))) eran) (impl_IsValidHistory_s g5) (sp 2 rfl (?_))
 rcases cond_some h with ⟨g6, h⟩ | ⟨g6, h⟩
 ·exact qg 18 g6 rfl (sp 10 rfl (evn (qT rfl rfl (rn 1 rfl (ls_ret ((by cases h; exact ⟨.inl rfl, rfl⟩)))))))
 ·refine qg 18 g6 rfl (sp 4 rfl (?_))
  rcases cond_some h with ⟨g7, h⟩ | ⟨g7, h⟩
  ·exact qg 22 g7 rfl (sp 6 rfl (evn (qk [2, 3, 4, 6, 7, 28] rfl (qT rfl rfl (rn 1 rfl (ls_ret ((by cases h; exact ⟨.inl rfl, rfl⟩))))))))
  ·refine qg 22 g7 rfl (sp 6 rfl (evn ?_))
   rcases cond_some h with ⟨g8, h⟩ | ⟨g8, h⟩
   ·exact qT rfl g8 (rn 1 rfl (ls_ret ((by cases h; exact ⟨.inl rfl, rfl⟩))))
   ·refine qF rfl g8 (ls_skip (hK3 _ (rd (by kernel_rfl) (sd 4 rfl (?_)))))
    obtain ⟨e9, g10, h⟩ := ob_some h
    refine ed rfl (qI rfl zc39_ddd g10 (sd 2 rfl (?_)))
    obtain ⟨v11, g12, h⟩ := ob_some h
    refine ed rfl (qC (qa rfl (erg (erc (erD ec83_dd _) rfl)) (qa rfl (erg (erc rfl (erc rfl (erc (erD ec60_d _) (erc rfl (erc (erD ec60_d _) rfl)))))) eran)) (impl_ApplyDelta_s g12) (sd 6 rfl (evdn (ls_seq_k fun K13 hK13 => rn 1 rfl (qk [4, 6, 8, 42] rfl ?_)))))
    rcases cond_some h with ⟨g14, h⟩ | ⟨g14, h⟩
    ·exact qT rfl g14 (rn 1 rfl (ls_ret ((by cases h; exact ⟨.inl rfl, rfl⟩))))
    ·refine qF rfl g14 (ls_skip (hK13 _ (rs (sp 3 rfl (qBs c39_ooo [v11.1] rfl rfl rfl zc39_ooo (?_))))))
     obtain ⟨g15, h⟩ := chk_some h
     exact qA c39_ooo v1.2 [v11.1] rfl rfl (flat_len zc39_ooo [v11.1]) rfl g15 (sp 2 rfl (evn (rn 1 rfl (ls_ret ((by cases h; exact ⟨.inl rfl, rfl⟩))))))
def spec_EqualRelations_B1 (a0 : Y28) (a1 : Y28) (rec : Int → Option (Sum (Unit) (Bool))) (y1 : Int) : Option (Sum (Unit) (Bool)) := cond (decide (y1 < (List.length a0.2 : Int))) (obind (geti a0.2 y1) fun e8 => obind (geti a1.2 y1) fun e10 => obind (spec_CompareRows e8 e10) fun v12 => cond (v12 != 0) (some (.inr false)) (rec (IntKind.i64.wrap (y1 + 1)))) (some (.inl ()))
def spec_EqualRelations (a0 : Y28) (a1 : Y28) : Option (Bool) := cond (a0.1 != a1.1) (some false) (cond ((List.length a0.2 : Int) != (List.length a1.2 : Int)) (some false) (obind (loopF (spec_EqualRelations_B1 a0 a1) fz 0) fun o1 => (match o1 with
  | .inl _ => (some true)
  | .inr r => some r)))
theorem spec_EqualRelations_s {a0 : Y28} {a1 : Y28} {r : Bool} (h : spec_EqualRelations a0 a1 = some r) : SoundAt Try.prog 48 [.agg (c29_dd a0), .agg (c29_dd a1)] (.bool r) := by
 unfold spec_EqualRelations at h
 refine st lit48 rfl (rn 1 rfl (ls_seq_k fun K1 hK1 => rs (sp 6 rfl (?_))))
 rcases cond_some h with ⟨g2, h⟩ | ⟨g2, h⟩
 ·exact qg 11 g2 rfl (sp 8 rfl (evn (qT rfl rfl (rn 1 rfl (ls_ret ((by cases h; exact ⟨.inl rfl, rfl⟩)))))))
 ·refine qg 11 g2 rfl (sp 8 rfl (evn ?_))
  rcases cond_some h with ⟨g3, h⟩ | ⟨g3, h⟩
  ·exact qT rfl g3 (rn 1 rfl (qk [4] rfl (ls_ret ((by cases h; exact ⟨.inl rfl, rfl⟩)))))
  ·refine qF rfl g3 (ls_skip (hK1 _ (ls_seq_k fun K4 hK4 => rn 1 rfl ?_)))
   obtain ⟨o1, hl, hr1⟩ := ob_some h
   have kXB1 : (.inl ()) = o1 → Jn K4 [] := by
    intro h σ' hk
    subst h
    replace h := hr1
    try dsimp only at h
    exact hK4 _ (lh hk rfl (rn 1 rfl (ls_ret ((by cases h; exact ⟨.inl rfl, rfl⟩)))))
   refine ls_rec (fun (y1 : Int) => [(2, .box [nI a0.1, dL c60_d a0.2]), (3, .box [nI a1.1, dL c60_d a1.2]), (5, nI y1)]) _ _ _ _ hl (okr rfl) (fun _ => rfl) ?_
   rintro m y1 N h hN
   unfold spec_EqualRelations_B1 at h
   refine ls_seq_k fun K5 hK5 => rn 1 rfl ?_
   rcases cond_some h with ⟨g6, h⟩ | ⟨g6, h⟩
   ·refine qT rfl g6 (ls_skip (hK5 _ (ls_seq_k fun K7 hK7 => ls_blk (rd (by kernel_rfl) (sd 3 rfl (?_))))))
    obtain ⟨e8, g9, h⟩ := ob_some h
    refine ed rfl (qI rfl zc60_d g9 (sd 4 rfl (?_)))
    obtain ⟨e10, g11, h⟩ := ob_some h
    refine ed rfl (qI rfl zc60_d g11 (sd 1 rfl (?_)))
    obtain ⟨v12, g13, h⟩ := ob_some h
    refine ed rfl (qC (qa rfl (erD eci64 _) (qa rfl (erD eci64 _) eran)) (spec_CompareRows_s g13) (sd 1 rfl (evdn ?_)))
    rcases cond_some h with ⟨g14, h⟩ | ⟨g14, h⟩
    ·exact qT rfl g14 (rn 1 rfl (ls_ret ((by cases h; cases hr1; exact ⟨.inl rfl, rfl⟩))))
    ·exact qF rfl g14 (ls_skip (hK7 _ (rg (sp 3 rfl (evn (hN _ _ h (okr rfl)))))))
   ·exact qF rfl g6 (ls_exit (kXB1 (Option.some.inj h) _ trivial))
def spec_EqualDatabases_B1 (a0 : List Y82) (a1 : List Y82) (rec : Int → Option (Sum (Unit) (Bool))) (y1 : Int) : Option (Sum (Unit) (Bool)) := cond (decide (y1 < (List.length a0 : Int))) (obind (geti a0 y1) fun e7 => obind (geti a1 y1) fun e9 => cond (!(e7.1 == e9.1)) (some (.inr false)) (obind (geti a0 y1) fun e12 => obind (geti a1 y1) fun e14 => obind (spec_EqualRelations e12.2 e14.2) fun v16 => cond (!v16) (some (.inr false)) (rec (IntKind.i64.wrap (y1 + 1))))) (some (.inl ()))
def spec_EqualDatabases (a0 : List Y82) (a1 : List Y82) : Option (Bool) := cond ((List.length a0 : Int) != (List.length a1 : Int)) (some false) (obind (loopF (spec_EqualDatabases_B1 a0 a1) fz 0) fun o1 => (match o1 with
  | .inl _ => (some true)
  | .inr r => some r))
theorem spec_EqualDatabases_s {a0 : List Y82} {a1 : List Y82} {r : Bool} (h : spec_EqualDatabases a0 a1 = some r) : SoundAt Try.prog 13 [.agg [dL c83_dd a0], .agg [dL c83_dd a1]] (.bool r) := by
 unfold spec_EqualDatabases at h
 refine st lit13 rfl (rn 1 rfl (ls_seq_k fun K1 hK1 => rn 1 rfl ?_))
 rcases cond_some h with ⟨g2, h⟩ | ⟨g2, h⟩
 ·exact qT rfl g2 (rn 1 rfl (ls_ret ((by cases h; exact ⟨.inl rfl, rfl⟩))))
 ·refine qF rfl g2 (ls_skip (hK1 _ (ls_seq_k fun K3 hK3 => rn 1 rfl ?_)))
  obtain ⟨o1, hl, hr1⟩ := ob_some h
  have kXB1 : (.inl ()) = o1 → Jn K3 [] := by
   intro h σ' hk
   subst h
   replace h := hr1
   try dsimp only at h
   exact hK3 _ (lh hk rfl (rn 1 rfl (ls_ret ((by cases h; exact ⟨.inl rfl, rfl⟩)))))
  refine ls_rec (fun (y1 : Int) => [(2, .box [dL c83_dd a0]), (3, .box [dL c83_dd a1]), (5, nI y1)]) _ _ _ _ hl (okr rfl) (fun _ => rfl) ?_
  rintro m y1 N h hN
  unfold spec_EqualDatabases_B1 at h
  refine ls_seq_k fun K4 hK4 => rn 1 rfl ?_
  rcases cond_some h with ⟨g5, h⟩ | ⟨g5, h⟩
  ·refine qT rfl g5 (ls_skip (hK4 _ (ls_seq_k fun K6 hK6 => ls_blk (rd (by kernel_rfl) (sd 3 rfl (?_))))))
   obtain ⟨e7, g8, h⟩ := ob_some h
   refine ed rfl (qI rfl zc83_dd g8 (sd 5 rfl (?_)))
   obtain ⟨e9, g10, h⟩ := ob_some h
   refine ed rfl (qI rfl zc83_dd g10 (sd 4 rfl (?_)))
   rcases cond_some h with ⟨g11, h⟩ | ⟨g11, h⟩
   ·exact qgd 33 g11 rfl (sd 15 rfl (evdn (qT rfl rfl (rn 1 rfl (qk [4] rfl (ls_ret ((by cases h; cases hr1; exact ⟨.inl rfl, rfl⟩))))))))
   ·refine qgd 33 g11 rfl (sd 3 rfl (?_))
    obtain ⟨e12, g13, h⟩ := ob_some h
    refine ed rfl (oGR rfl rfl (qI rfl zc83_dd g13 (sd 5 rfl (?_))))
    obtain ⟨e14, g15, h⟩ := ob_some h
    refine ed rfl (oGR rfl rfl (qI rfl zc83_dd g15 (sd 2 rfl (?_))))
    obtain ⟨v16, g17, h⟩ := ob_some h
    refine ed rfl (oGR rfl rfl (qC (qa rfl (erg (erc rfl (erc (erD ec60_d _) rfl))) (qa rfl (erg (erc rfl (erc (erD ec60_d _) rfl))) eran)) (spec_EqualRelations_s g17) (sd 2 rfl (evdn ?_))))
    rcases cond_some h with ⟨g18, h⟩ | ⟨g18, h⟩
    ·exact qT rfl g18 (rn 1 rfl (ls_ret ((by cases h; cases hr1; exact ⟨.inl rfl, rfl⟩))))
    ·exact qF rfl g18 (ls_skip (hK6 _ (rg (sp 3 rfl (evn (hN _ _ h (okr rfl)))))))
  ·exact qF rfl g5 (ls_exit (kXB1 (Option.some.inj h) _ trivial))
def spec_EqualHistories_B1 (a0 : Y25) (a1 : Y25) (rec : Int → Option (Sum (Unit) (Bool))) (y1 : Int) : Option (Sum (Unit) (Bool)) := cond (decide (y1 < (List.length a0.2 : Int))) (obind (geti a0.2 y1) fun e8 => obind (geti a1.2 y1) fun e10 => obind (spec_EqualDatabases e8 e10) fun v12 => cond (!v12) (some (.inr false)) (rec (IntKind.i64.wrap (y1 + 1)))) (some (.inl ()))
def spec_EqualHistories (a0 : Y25) (a1 : Y25) : Option (Bool) := cond (a0.1 != a1.1) (some false) (cond ((List.length a0.2 : Int) != (List.length a1.2 : Int)) (some false) (obind (loopF (spec_EqualHistories_B1 a0 a1) fz 0) fun o1 => (match o1 with
  | .inl _ => (some true)
  | .inr r => some r)))
theorem spec_EqualHistories_s {a0 : Y25} {a1 : Y25} {r : Bool} (h : spec_EqualHistories a0 a1 = some r) : SoundAt Try.prog 10 [.agg (c26_dddd a0), .agg (c26_dddd a1)] (.bool r) := by
 unfold spec_EqualHistories at h
 refine st lit10 rfl (rn 1 rfl (ls_seq_k fun K1 hK1 => rs (sp 6 rfl (?_))))
 rcases cond_some h with ⟨g2, h⟩ | ⟨g2, h⟩
 ·exact qg 11 g2 rfl (sp 8 rfl (evn (qT rfl rfl (rn 1 rfl (ls_ret ((by cases h; exact ⟨.inl rfl, rfl⟩)))))))
 ·refine qg 11 g2 rfl (sp 8 rfl (evn ?_))
  rcases cond_some h with ⟨g3, h⟩ | ⟨g3, h⟩
  ·exact qT rfl g3 (rn 1 rfl (qk [4] rfl (ls_ret ((by cases h; exact ⟨.inl rfl, rfl⟩)))))
  ·refine qF rfl g3 (ls_skip (hK1 _ (ls_seq_k fun K4 hK4 => rn 1 rfl ?_)))
   obtain ⟨o1, hl, hr1⟩ := ob_some h
   have kXB1 : (.inl ()) = o1 → Jn K4 [] := by
    intro h σ' hk
    subst h
    replace h := hr1
    try dsimp only at h
    exact hK4 _ (lh hk rfl (rn 1 rfl (ls_ret ((by cases h; exact ⟨.inl rfl, rfl⟩)))))
   refine ls_rec (fun (y1 : Int) => [(2, .box [nI a0.1, dL c39_ddd a0.2]), (3, .box [nI a1.1, dL c39_ddd a1.2]), (5, nI y1)]) _ _ _ _ hl (okr rfl) (fun _ => rfl) ?_
   rintro m y1 N h hN
   unfold spec_EqualHistories_B1 at h
   refine ls_seq_k fun K5 hK5 => rn 1 rfl ?_
   rcases cond_some h with ⟨g6, h⟩ | ⟨g6, h⟩
   ·refine qT rfl g6 (ls_skip (hK5 _ (ls_seq_k fun K7 hK7 => ls_blk (rd (by kernel_rfl) (sd 3 rfl (?_))))))
    obtain ⟨e8, g9, h⟩ := ob_some h
    refine ed rfl (qI rfl zc39_ddd g9 (sd 4 rfl (?_)))
    obtain ⟨e10, g11, h⟩ := ob_some h
    refine ed rfl (qI rfl zc39_ddd g11 (sd 1 rfl (?_)))
    obtain ⟨v12, g13, h⟩ := ob_some h
    refine ed rfl (qC (qa rfl (erg (erc (erD ec83_dd _) rfl)) (qa rfl (erg (erc (erD ec83_dd _) rfl)) eran)) (spec_EqualDatabases_s g13) (sd 1 rfl (evdn ?_)))
    rcases cond_some h with ⟨g14, h⟩ | ⟨g14, h⟩
    ·exact qT rfl g14 (rn 1 rfl (ls_ret ((by cases h; cases hr1; exact ⟨.inl rfl, rfl⟩))))
    ·exact qF rfl g14 (ls_skip (hK7 _ (rg (sp 3 rfl (evn (hN _ _ h (okr rfl)))))))
   ·exact qF rfl g6 (ls_exit (kXB1 (Option.some.inj h) _ trivial))
def impl_SnapshotAt (a0 : Y25) (a1 : Int) : Option ((List Y82) × Bool) := obind (impl_IsValidHistory a0) fun v2 => cond (!v2) (some ([], false)) (obind (impl_within a1 a0.1 (IntKind.i64.wrap ((IntKind.i64.wrap (a0.1 + (List.length a0.2 : Int))) - 1))) fun v5 => cond (!v5) (some ([], false)) (obind (geti a0.2 (IntKind.i64.wrap (a1 - a0.1))) fun e8 => obind (impl_copyDatabase e8) fun v10 => some (v10, true)))
theorem impl_SnapshotAt_s {a0 : Y25} {a1 : Int} {r : (List Y82) × Bool} (h : impl_SnapshotAt a0 a1 = some r) : SoundAt Try.prog 11 [.agg (c26_dddd a0), nI a1] (.tup [.agg [oL 83 c83_oo r.1], .bool r.2]) := by
 unfold impl_SnapshotAt at h
 refine st lit11 rfl (rn 1 rfl (ls_seq_k fun K1 hK1 => rs (sp 1 rfl (?_))))
 obtain ⟨v2, g3, h⟩ := ob_some h
 refine qC (qa rfl (erg (erc rfl (erc (erD ec39_ddd _) rfl))) eran) (impl_IsValidHistory_s g3) (sp 2 rfl (?_))
 rcases cond_some h with ⟨g4, h⟩ | ⟨g4, h⟩
 ·exact qg 9 g4 rfl (sp 13 rfl (evn (qT rfl rfl (rn 1 rfl (ls_ret ((by cases h; exact ⟨.inl rfl, rfl⟩)))))))
 ·refine qg 9 g4 rfl (sp 10 rfl (?_))
  obtain ⟨v5, g6, h⟩ := ob_some h
  refine oGR rfl rfl (qC (qs rfl (qs rfl (qs rfl eran))) (impl_within_s g6) (sp 2 rfl (evn (qk [1, 2, 4, 22] rfl ?_))))
  rcases cond_some h with ⟨g7, h⟩ | ⟨g7, h⟩
  ·exact qT rfl g7 (rn 1 rfl (ls_ret ((by cases h; exact ⟨.inl rfl, rfl⟩))))
  ·refine qF rfl g7 (ls_skip (hK1 _ (rs (sp 6 rfl (?_)))))
   obtain ⟨e8, g9, h⟩ := ob_some h
   refine qI rfl zc39_ddd g9 (sp 1 rfl (?_))
   obtain ⟨v10, g11, h⟩ := ob_some h
   exact qC (qa rfl (erg (erc (erD ec83_dd _) rfl)) eran) (impl_copyDatabase_s g11) (sp 2 rfl (evn (ls_ret ((by cases h; exact ⟨.inl rfl, rfl⟩)))))
def spec_SnapshotAt (a0 : Y25) (a1 : Int) : Option ((List Y82) × Bool) := obind (spec_IsValidHistory a0) fun v2 => cond (!v2) (some ([], false)) (obind (spec_l1In a1 a0.1 (IntKind.i64.wrap ((IntKind.i64.wrap (a0.1 + (List.length a0.2 : Int))) - 1))) fun v5 => cond (!v5) (some ([], false)) (obind (geti a0.2 (IntKind.i64.wrap (a1 - a0.1))) fun e8 => obind (spec_l6Copy e8) fun v10 => some (v10, true)))
theorem spec_SnapshotAt_s {a0 : Y25} {a1 : Int} {r : (List Y82) × Bool} (h : spec_SnapshotAt a0 a1 = some r) : SoundAt Try.prog 12 [.agg (c26_dddd a0), nI a1] (.tup [.agg [oL 83 c83_oo r.1], .bool r.2]) := by
 unfold spec_SnapshotAt at h
 refine st lit12 rfl (rn 1 rfl (ls_seq_k fun K1 hK1 => rs (sp 1 rfl (?_))))
 obtain ⟨v2, g3, h⟩ := ob_some h
 refine qC (qa rfl (erg (erc rfl (erc (erD ec39_ddd _) rfl))) eran) (spec_IsValidHistory_s g3) (sp 2 rfl (?_))
 rcases cond_some h with ⟨g4, h⟩ | ⟨g4, h⟩
 ·exact qg 9 g4 rfl (sp 13 rfl (evn (qT rfl rfl (rn 1 rfl (ls_ret ((by cases h; exact ⟨.inl rfl, rfl⟩)))))))
 ·refine qg 9 g4 rfl (sp 10 rfl (?_))
  obtain ⟨v5, g6, h⟩ := ob_some h
  refine oGR rfl rfl (qC (qs rfl (qs rfl (qs rfl eran))) (spec_l1In_s g6) (sp 2 rfl (evn (qk [1, 2, 4, 22] rfl ?_))))
  rcases cond_some h with ⟨g7, h⟩ | ⟨g7, h⟩
  ·exact qT rfl g7 (rn 1 rfl (ls_ret ((by cases h; exact ⟨.inl rfl, rfl⟩))))
  ·refine qF rfl g7 (ls_skip (hK1 _ (rs (sp 6 rfl (?_)))))
   obtain ⟨e8, g9, h⟩ := ob_some h
   refine qI rfl zc39_ddd g9 (sp 1 rfl (?_))
   obtain ⟨v10, g11, h⟩ := ob_some h
   exact qC (qa rfl (erg (erc (erD ec83_dd _) rfl)) eran) (spec_l6Copy_s g11) (sp 2 rfl (evn (ls_ret ((by cases h; exact ⟨.inl rfl, rfl⟩)))))
def laws_FnSnapshots_B2 (v5 : Y25 × Y30) (v7 : Y25 × Bool) (rec : Int → Option (Sum (Unit) (Bool))) (y1 : Int) : Option (Sum (Unit) (Bool)) := cond (decide (y1 ≤ (IntKind.i64.wrap ((IntKind.i64.wrap (v5.1.1 + (List.length v5.1.2 : Int))) - 1)))) (obind (impl_SnapshotAt v7.1 y1) fun v21 => obind (spec_SnapshotAt v5.1 y1) fun v23 => cond (!v21.2) (some (.inr false)) (cond (!v23.2) (some (.inr false)) (obind (spec_EqualDatabases v21.1 v23.1) fun v27 => cond (!v27) (some (.inr false)) (rec (IntKind.i64.wrap (y1 + 1)))))) (some (.inl ()))
def laws_FnSnapshots_J3 (x39 : Bool) : Option (Bool) := some x39
def laws_FnSnapshots_J1 (v5 : Y25 × Y30) (v7 : Y25 × Bool) (x13 : Bool) : Option (Bool) := cond x13 (some false) (cond (!v7.2) (some true) (obind (loopF (laws_FnSnapshots_B2 v5 v7) fz v5.1.1) fun o2 => (match o2 with
  | .inl _ => (obind (impl_SnapshotAt v7.1 (IntKind.i64.wrap ((IntKind.i64.wrap ((IntKind.i64.wrap (v5.1.1 + (List.length v5.1.2 : Int))) - 1)) + 1))) fun v30 => obind (geti v5.1.2 (IntKind.i64.wrap ((List.length v5.1.2 : Int) - 1))) fun e32 => obind (spec_ApplyDelta e32 v5.2) fun v34 => obind (impl_SnapshotAt v7.1 (IntKind.i64.wrap ((IntKind.i64.wrap ((IntKind.i64.wrap (v5.1.1 + (List.length v5.1.2 : Int))) - 1)) + 2))) fun v36 => cond v30.2 (obind (spec_EqualDatabases v30.1 v34.1) fun v41 => cond v41 (cond (!v36.2) (obind (spec_IsValidHistory v7.1) fun v45 => laws_FnSnapshots_J3 v45) (laws_FnSnapshots_J3 false)) (laws_FnSnapshots_J3 false)) (laws_FnSnapshots_J3 false))
  | .inr r => some r)))
def laws_FnSnapshots (a0 : List Int) : Option (Bool) := obind (laws_big a0) fun v2 => cond v2 (some true) (obind (spec_DrawAppendSnapshot a0) fun v5 => obind (impl_AppendSnapshot v5.1 v5.2) fun v7 => obind (spec_AppendSnapshot v5.1 v5.2) fun v9 => cond (!(v7.2 == v9.2)) (laws_FnSnapshots_J1 v5 v7 true) (cond (!v7.2) (obind (spec_EqualHistories v7.1 v5.1) fun v49 => laws_FnSnapshots_J1 v5 v7 (!v49)) (laws_FnSnapshots_J1 v5 v7 false)))
theorem laws_FnSnapshots_s {a0 : List Int} {r : Bool} (h : laws_FnSnapshots a0 = some r) : SoundAt Try.prog 3 [dL cu8 a0] (.bool r) := by
 unfold laws_FnSnapshots at h
 refine sta lit3 rfl (aall (ableD (fun _ => rfl) _) rfl) (mvv (argD (fun _ => rfl) _) rfl) rfl (rn 1 rfl (ls_seq_k fun K1 hK1 => rs (sp 1 rfl (?_))))
 obtain ⟨v2, g3, h⟩ := ob_some h
 refine qC (qa rfl (erG ecu8 _) eran) (laws_big_s g3) (evn ?_)
 rcases cond_some h with ⟨g4, h⟩ | ⟨g4, h⟩
 ·exact qT rfl g4 (rn 1 rfl (ls_ret ((by cases h; exact ⟨.inl rfl, rfl⟩))))
 ·refine qF rfl g4 (ls_skip (hK1 _ (rs (sp 1 rfl (?_)))))
  obtain ⟨v5, g6, h⟩ := ob_some h
  refine qCk rfl rfl (spec_DrawAppendSnapshot_s g6) (sp 7 rfl (evn (rs (sp 2 rfl (?_)))))
  obtain ⟨v7, g8, h⟩ := ob_some h
  refine qC (qa rfl (erg (erc rfl (erc (erD ec39_aaa _) rfl))) (qa rfl (erg (erc rfl (erc rfl (erc (erD ec60_o _) (erc rfl (erc (erD ec60_d _) rfl)))))) eran)) (impl_AppendSnapshot_s g8) (sp 6 rfl (evn (rs (sp 2 rfl (?_)))))
  obtain ⟨v9, g10, h⟩ := ob_some h
  refine qC (qa rfl (erg (erc rfl (erc (erD ec39_aaa _) rfl))) (qa rfl (erg (erc rfl (erc rfl (erc (erD ec60_o _) (erc rfl (erc (erD ec60_d _) rfl)))))) eran)) (spec_AppendSnapshot_s g10) (sp 6 rfl (evn (qk [3, 4, 5, 6, 8] rfl (ls_seq_k fun K11 hK11 => rk fun K12 hK12 => ?_))))
  have kJ1 : ∀ {x13 : Bool}, laws_FnSnapshots_J1 v5 v7 x13 = some r → Jn K12 [(3, .box [nI v5.1.1, dL c39_aaa v5.1.2]), (4, .box [.str v5.2.1, nI v5.2.2.1.1, oL 60 c60_o v5.2.2.1.2, nI v5.2.2.2.1, dL c60_d v5.2.2.2.2]), (5, .box [nI v7.1.1, oL 39 c39_ooo v7.1.2]), (6, .bool v7.2), (52, .bool x13)] := by
   intro x13 h σ' hk
   unfold laws_FnSnapshots_J1 at h
   refine hK12 _ (lh hk rfl ?_)
   rcases cond_some h with ⟨g14, h⟩ | ⟨g14, h⟩
   ·exact qT rfl g14 (rn 1 rfl (ls_ret ((by cases h; exact ⟨.inl rfl, rfl⟩))))
   ·refine qF rfl g14 (ls_skip (hK11 _ (ls_seq_k fun K15 hK15 => rn 1 rfl ?_)))
    rcases cond_some h with ⟨g16, h⟩ | ⟨g16, h⟩
    ·exact qT rfl g16 (rn 1 rfl (ls_ret ((by cases h; exact ⟨.inl rfl, rfl⟩))))
    ·refine qF rfl g16 (ls_skip (hK15 _ (rn 1 rfl (ls_seq_k fun K17 hK17 => rn 1 rfl ?_))))
     obtain ⟨o2, hl, hr2⟩ := ob_some h
     have kXB2 : (.inl ()) = o2 → Jn K17 [(3, .box [nI v5.1.1, dL c39_aaa v5.1.2]), (4, .box [.str v5.2.1, nI v5.2.2.1.1, oL 60 c60_o v5.2.2.1.2, nI v5.2.2.2.1, dL c60_d v5.2.2.2.2]), (5, .box [nI v7.1.1, oL 39 c39_ooo v7.1.2]), (9, nI (IntKind.i64.wrap ((IntKind.i64.wrap (v5.1.1 + (List.length v5.1.2 : Int))) - 1)))] := by
      intro h σ' hk
      subst h
      replace h := hr2
      try dsimp only at h
      refine hK17 _ (lh hk rfl (rs (sp 3 rfl (?_))))
      obtain ⟨v30, g31, h⟩ := ob_some h
      refine qC (qa rfl (erg (erc rfl (erc (erD ec39_ooo _) rfl))) (qs rfl eran)) (impl_SnapshotAt_s g31) (sp 6 rfl (evn (rd (by kernel_rfl) (sd 6 rfl (?_)))))
      obtain ⟨e32, g33, h⟩ := ob_some h
      refine ed rfl (qI rfl zc39_aaa g33 (sd 2 rfl (?_)))
      obtain ⟨v34, g35, h⟩ := ob_some h
      refine ed rfl (qC (qa rfl (erg (erc (erG ec83_aa _) rfl)) (qa rfl (erg (erc rfl (erc rfl (erc (erD ec60_o _) (erc rfl (erc (erD ec60_d _) rfl)))))) eran)) (spec_ApplyDelta_s g35) (sd 6 rfl (evdn (rs (sp 3 rfl (?_))))))
      obtain ⟨v36, g37, h⟩ := ob_some h
      refine qC (qa rfl (erg (erc rfl (erc (erD ec39_ooo _) rfl))) (qs rfl eran)) (impl_SnapshotAt_s g37) (sp 6 rfl (evn (rk fun K38 hK38 => ?_)))
      have kJ3 : ∀ {x39 : Bool}, laws_FnSnapshots_J3 x39 = some r → Jn K38 [(2, .bool x39)] := by
       intro x39 h σ' hk
       unfold laws_FnSnapshots_J3 at h
       exact hK38 _ (lh hk rfl (ls_ret ((by cases h; exact ⟨.inl rfl, rfl⟩))))
      refine sp 2 rfl (?_)
      rcases cond_some h with ⟨g40, h⟩ | ⟨g40, h⟩
      ·refine qg 121 g40 rfl (sp 2 rfl (?_))
       obtain ⟨v41, g42, h⟩ := ob_some h
       refine oGR rfl rfl (qC (qa rfl (erg (erc (erD ec83_oo _) rfl)) (qa rfl (erg (erc (erD ec83_oo _) rfl)) eran)) (spec_EqualDatabases_s g42) (sp 2 rfl (?_)))
       rcases cond_some h with ⟨g43, h⟩ | ⟨g43, h⟩
       ·refine qg 126 g43 rfl (sp 4 rfl (?_))
        rcases cond_some h with ⟨g44, h⟩ | ⟨g44, h⟩
        ·refine qg 130 g44 rfl (sp 1 rfl (?_))
         obtain ⟨v45, g46, h⟩ := ob_some h
         exact oGR rfl rfl (qC (qa rfl (erg (erc rfl (erc (erD ec39_ooo _) rfl))) eran) (spec_IsValidHistory_s g46) (sp 2 rfl (evn (kJ3 h _ (okr rfl)))))
        ·exact qg 130 g44 rfl (sp 4 rfl (evn (kJ3 h _ (okr rfl))))
       ·exact qg 126 g43 rfl (sp 8 rfl (evn (kJ3 h _ (okr rfl))))
      ·exact qg 121 g40 rfl (sp 13 rfl (evn (kJ3 h _ (okr rfl))))
     refine ls_rec (fun (y1 : Int) => [(3, .box [nI v5.1.1, dL c39_aaa v5.1.2]), (4, .box [.str v5.2.1, nI v5.2.2.1.1, oL 60 c60_o v5.2.2.1.2, nI v5.2.2.2.1, dL c60_d v5.2.2.2.2]), (5, .box [nI v7.1.1, oL 39 c39_ooo v7.1.2]), (9, nI (IntKind.i64.wrap ((IntKind.i64.wrap (v5.1.1 + (List.length v5.1.2 : Int))) - 1))), (10, nI y1)]) _ _ _ _ hl (okr rfl) (fun _ => rfl) ?_
     rintro m y1 N h hN
     unfold laws_FnSnapshots_B2 at h
     refine ls_seq_k fun K18 hK18 => rn 1 rfl ?_
     rcases cond_some h with ⟨g19, h⟩ | ⟨g19, h⟩
     ·refine qT rfl g19 (ls_skip (hK18 _ (ls_seq_k fun K20 hK20 => ls_blk (rs (sp 2 rfl (?_))))))
      obtain ⟨v21, g22, h⟩ := ob_some h
      refine qC (qa rfl (erg (erc rfl (erc (erD ec39_ooo _) rfl))) (qs rfl eran)) (impl_SnapshotAt_s g22) (sp 6 rfl (evn (rs (sp 2 rfl (?_)))))
      obtain ⟨v23, g24, h⟩ := ob_some h
      refine qC (qa rfl (erg (erc rfl (erc (erD ec39_aaa _) rfl))) (qs rfl eran)) (spec_SnapshotAt_s g24) (sp 6 rfl (evn (rs (sp 3 rfl (?_)))))
      rcases cond_some h with ⟨g25, h⟩ | ⟨g25, h⟩
      ·exact qg 83 g25 rfl (sp 9 rfl (evn (qk [3, 4, 5, 9, 10, 92] rfl (qT rfl rfl (rn 1 rfl (ls_ret ((by cases h; cases hr2; exact ⟨.inl rfl, rfl⟩))))))))
      ·refine qg 83 g25 rfl (sp 4 rfl (?_))
       rcases cond_some h with ⟨g26, h⟩ | ⟨g26, h⟩
       ·exact qg 87 g26 rfl (sp 5 rfl (evn (qT rfl rfl (rn 1 rfl (ls_ret ((by cases h; cases hr2; exact ⟨.inl rfl, rfl⟩)))))))
       ·refine qg 87 g26 rfl (sp 2 rfl (?_))
        obtain ⟨v27, g28, h⟩ := ob_some h
        refine oGR rfl rfl (qC (qa rfl (erg (erc (erD ec83_oo _) rfl)) (qa rfl (erg (erc (erD ec83_oo _) rfl)) eran)) (spec_EqualDatabases_s g28) (sp 2 rfl (evn ?_)))
        rcases cond_some h with ⟨g29, h⟩ | ⟨g29, h⟩
        ·exact qT rfl g29 (rn 1 rfl (ls_ret ((by cases h; cases hr2; exact ⟨.inl rfl, rfl⟩))))
        ·exact qF rfl g29 (ls_skip (hK20 _ (rg (sp 3 rfl (evn (hN _ _ h (okr rfl)))))))
     ·exact qF rfl g19 (ls_exit (kXB2 (Option.some.inj h) _ (okr rfl)))
  refine sp 4 rfl (?_)
  rcases cond_some h with ⟨g47, h⟩ | ⟨g47, h⟩
  ·exact qg 43 g47 rfl (sp 9 rfl (evn (kJ1 h _ (okr rfl))))
  ·refine qg 43 g47 rfl (sp 3 rfl (?_))
   rcases cond_some h with ⟨g48, h⟩ | ⟨g48, h⟩
   ·refine qg 46 g48 rfl (sp 2 rfl (?_))
    obtain ⟨v49, g50, h⟩ := ob_some h
    exact oGR rfl rfl (qC (qa rfl (erg (erc rfl (erc (erD ec39_ooo _) rfl))) (qa rfl (erg (erc rfl (erc (erD ec39_aaa _) rfl))) eran)) (spec_EqualHistories_s g50) (sp 3 rfl (evn (kJ1 h _ (okr rfl)))))
   ·exact qg 46 g48 rfl (sp 6 rfl (evn (kJ1 h _ (okr rfl))))
end Go.Proofs.Ytcoalfphehhadaa
