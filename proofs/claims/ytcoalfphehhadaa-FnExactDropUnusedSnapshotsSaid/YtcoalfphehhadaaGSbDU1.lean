/-
  Functions of the program as typed functions, printed by gen.py, and that the program's functions do what they say. No conditions.
-/
import Derived.Test.YtcoalfphehhadaaGSDU1
namespace Go.Proofs.Ytcoalfphehhadaa
open Go.RowKit
set_option linter.unusedVariables false
set_option maxRecDepth 100000
set_option maxHeartbeats 1000000
theorem gkc83_aa (x : Y82) : argdL (c83_aa x) = true := (acc rfl (acc rfl (acc (aca gkc60_a _) rfl)))
theorem gkc39_aaa (x : List Y82) : argdL (c39_aaa x) = true := (acc (aca gkc83_aa _) rfl)
def laws_FnExactDropUnusedSnapshots (a0 : Y46) (a1 : List Y97) : Option (Bool) := obind (laws_szHistory a0 1048576) fun v1 => cond (decide (v1 < 0)) (some true) (obind (laws_szCursorS a1 v1) fun v5 => cond (decide (v5 < 0)) (some true) (obind (laws_toHistory a0) fun v9 => obind (laws_toCursorS a1) fun v11 => obind (spec_DropUnusedSnapshots v9 v11) fun v13 => obind (laws_toHistory a0) fun v15 => obind (laws_toCursorS a1) fun v17 => obind (impl_DropUnusedSnapshots v15 v17) fun v19 => obind (laws_eqHistory v19 v13) fun v22 => cond (!v22) (some false) (obind (laws_toHistory a0) fun v26 => obind (laws_eqHistory v15 v26) fun v28 => cond (!v28) (some false) (obind (laws_toCursorS a1) fun v32 => obind (laws_eqCursorS v17 v32) fun v34 => cond (!v34) (some false) (obind (laws_markHistory v15 1) fun v37 => obind (laws_markCursorS v17 v37.2) fun v39 => cond (decide (v39.2 < 0)) (some false) (obind (laws_eqHistory v19 v13) fun v43 => cond (!v43) (some false) (obind (laws_markHistory v19 1) fun v46 => obind (laws_heldHistory v46.1 1) fun v48 => cond (decide (v48 < 0)) (some false) (cond (v48 != v46.2) (some false) (obind (laws_toHistory a0) fun v54 => obind (laws_toCursorS a1) fun v56 => obind (impl_DropUnusedSnapshots v54 v56) fun v58 => obind (laws_eqHistory v58 v13) fun v61 => cond (!v61) (some false) (obind (laws_heldHistory v46.1 1) fun v64 => cond (decide (v64 < 0)) (some false) (cond (v64 != v46.2) (some false) (some true))))))))))))
theorem laws_FnExactDropUnusedSnapshots_s {a0 : Y46} {a1 : List Y97} {r : Bool} (h : laws_FnExactDropUnusedSnapshots a0 a1 = some r) : SoundAt Try.prog 4 [.agg (c47_aaaa a0), aL c98_aaaaa a1] (.bool r) := by
 unfold laws_FnExactDropUnusedSnapshots at h
 refine st lit4 rfl (rn 2 rfl (rs (sp 2 rfl (?_))))
 obtain ⟨v1, g2, h⟩ := ob_some h
 refine qC (qa rfl (erg (erc rfl (erc (erG ec147_aaa _) rfl))) (qs rfl eran)) (laws_szHistory_s g2) (sp 1 rfl (evn (ls_seq_k fun K3 hK3 => rn 1 rfl ?_)))
 rcases cond_some h with ⟨g4, h⟩ | ⟨g4, h⟩
 ·exact qT rfl g4 (rn 1 rfl (ls_ret ((by cases h; exact ⟨.inl rfl, rfl⟩))))
 ·refine qF rfl g4 (ls_skip (hK3 _ (rs (sp 2 rfl (?_)))))
  obtain ⟨v5, g6, h⟩ := ob_some h
  refine qC (qa rfl (erG ec98_aaaaa _) (qs rfl eran)) (laws_szCursorS_s g6) (sp 1 rfl (evn (ls_seq_k fun K7 hK7 => rn 1 rfl (qk [1, 2, 23] rfl ?_))))
  rcases cond_some h with ⟨g8, h⟩ | ⟨g8, h⟩
  ·exact qT rfl g8 (rn 1 rfl (ls_ret ((by cases h; exact ⟨.inl rfl, rfl⟩))))
  ·refine qF rfl g8 (ls_skip (hK7 _ (rs (sp 1 rfl (?_)))))
   obtain ⟨v9, g10, h⟩ := ob_some h
   refine qC (qa rfl (erg (erc rfl (erc (erG ec147_aaa _) rfl))) eran) (laws_toHistory_s g10) (sp 1 rfl (?_))
   obtain ⟨v11, g12, h⟩ := ob_some h
   refine qC (qa rfl (erG ec98_aaaaa _) eran) (laws_toCursorS_s g12) (?_)
   obtain ⟨v13, g14, h⟩ := ob_some h
   refine qC (qa rfl (erg (erc rfl (erc (erO ec39_ooo _) rfl))) (qa rfl (erO ec100_ooooo _) eran)) (spec_DropUnusedSnapshots_s g14) (sp 2 rfl (evn (rs (sp 1 rfl (?_)))))
   obtain ⟨v15, g16, h⟩ := ob_some h
   refine qC (qa rfl (erg (erc rfl (erc (erG ec147_aaa _) rfl))) eran) (laws_toHistory_s g16) (sp 2 rfl (evn (rs (sp 1 rfl (?_)))))
   obtain ⟨v17, g18, h⟩ := ob_some h
   refine qC (qa rfl (erG ec98_aaaaa _) eran) (laws_toCursorS_s g18) (sp 1 rfl (evn (rs (sp 2 rfl (?_)))))
   obtain ⟨v19, g20, h⟩ := ob_some h
   refine qC (qa rfl (erg (erc rfl (erc (erD ec39_ooo _) rfl))) (qa rfl (erD ec100_ooooo _) eran)) (impl_DropUnusedSnapshots_s g20) (sp 2 rfl (evn (ls_seq_k fun K21 hK21 => rs (sp 2 rfl (?_)))))
   obtain ⟨v22, g23, h⟩ := ob_some h
   refine qC (qa rfl (erg (erc rfl (erc (erD ec39_ooo _) rfl))) (qa rfl (erg (erc rfl (erc (erG ec39_aaa _) rfl))) eran)) (laws_eqHistory_s g23) (sp 1 rfl (evn (qk [1, 2, 6, 7, 8, 9, 39] rfl ?_)))
   rcases cond_some h with ⟨g24, h⟩ | ⟨g24, h⟩
   ·exact qT rfl g24 (rn 1 rfl (ls_ret ((by cases h; exact ⟨.inl rfl, rfl⟩))))
   ·refine qF rfl g24 (ls_skip (hK21 _ (ls_seq_k fun K25 hK25 => rd (by kernel_rfl) (sd 2 rfl (?_)))))
    obtain ⟨v26, g27, h⟩ := ob_some h
    refine ed rfl (qC (qa rfl (erg (erc rfl (erc (erG ec147_aaa _) rfl))) eran) (laws_toHistory_s g27) (?_))
    obtain ⟨v28, g29, h⟩ := ob_some h
    refine ed rfl (qC (qa rfl (erg (erc rfl (erc (erD ec39_ooo _) rfl))) (qa rfl (erg (erc rfl (erc (erO ec39_ooo _) rfl))) eran)) (laws_eqHistory_s g29) (sd 1 rfl (evdn ?_)))
    rcases cond_some h with ⟨g30, h⟩ | ⟨g30, h⟩
    ·exact qT rfl g30 (rn 1 rfl (ls_ret ((by cases h; exact ⟨.inl rfl, rfl⟩))))
    ·refine qF rfl g30 (ls_skip (hK25 _ (ls_seq_k fun K31 hK31 => rs (sp 2 rfl (?_)))))
     obtain ⟨v32, g33, h⟩ := ob_some h
     refine qC (qa rfl (erG ec98_aaaaa _) eran) (laws_toCursorS_s g33) (?_)
     obtain ⟨v34, g35, h⟩ := ob_some h
     refine qC (qa rfl (erD ec100_ooooo _) (qa rfl (erO ec100_ooooo _) eran)) (laws_eqCursorS_s g35) (sp 1 rfl (evn ?_))
     rcases cond_some h with ⟨g36, h⟩ | ⟨g36, h⟩
     ·exact qT rfl g36 (rn 1 rfl (qk [4] rfl (ls_ret ((by cases h; exact ⟨.inl rfl, rfl⟩)))))
     ·refine qF rfl g36 (ls_skip (hK31 _ (rn 1 rfl (qk [1, 2, 6, 7, 8, 9, 10] rfl ?_))))
      obtain ⟨v37, g38, h⟩ := ob_some h
      refine ls_mark (src_box tbOk rfl rfl rfl) rfl rfl (laws_markHistory_m g38) (dp26 _) (sf_of (sfc (argd_flat ad98 _) (sfc (scc rfl (scc (sca ad147 _) scn)) (sfc (scc rfl (scc (sca gkc39_aaa _) scn)) (sfs (sfc (deep_flat dp100 _) (sfc (scc rfl (scc (sco dp39 _) scn)) (sfc rfl sfn)))))))) rfl rfl ⟨by decide, by decide⟩ rfl rfl (kp [(1, aL c98_aaaaa a1), (2, .box [nI a0.1, aL c147_aaa a0.2]), (6, .box [nI v13.1, aL c39_aaa v13.2]), (8, oL 100 c100_ooooo v17), (9, .box [nI v19.1, oL 39 c39_ooo v19.2]), (10, nI v37.2)] rfl rfl (qk [1, 2, 6, 8, 9, 10] rfl ?_))
      obtain ⟨v39, g40, h⟩ := ob_some h
      refine ls_mark (src_own rfl) rfl rfl (laws_markCursorS_m g40) (deep_flat dp100 _) (sf_of (sfc (argd_flat ad98 _) (sfc (scc rfl (scc (sca ad147 _) scn)) (sfc (scc rfl (scc (sca gkc39_aaa _) scn)) (sfs (sfc (scc rfl (scc (sco dp39 _) scn)) (sfc rfl sfn))))))) rfl rfl ⟨by decide, by decide⟩ rfl rfl (kp [(1, aL c98_aaaaa a1), (2, .box [nI a0.1, aL c147_aaa a0.2]), (6, .box [nI v13.1, aL c39_aaa v13.2]), (9, .box [nI v19.1, oL 39 c39_ooo v19.2]), (10, nI v39.2)] rfl rfl (ls_seq_k fun K41 hK41 => rs (sp 3 rfl (?_))))
      rcases cond_some h with ⟨g42, h⟩ | ⟨g42, h⟩
      ·exact qg 58 g42 rfl (sp 5 rfl (evn (qT rfl rfl (rn 1 rfl (ls_ret ((by cases h; exact ⟨.inl rfl, rfl⟩)))))))
      ·refine qg 58 g42 rfl (sp 2 rfl (?_))
       obtain ⟨v43, g44, h⟩ := ob_some h
       refine oGR rfl rfl (qC (qa rfl (erg (erc rfl (erc (erD ec39_ooo _) rfl))) (qa rfl (erg (erc rfl (erc (erG ec39_aaa _) rfl))) eran)) (laws_eqHistory_s g44) (sp 2 rfl (evn ?_)))
       rcases cond_some h with ⟨g45, h⟩ | ⟨g45, h⟩
       ·exact qT rfl g45 (rn 1 rfl (ls_ret ((by cases h; exact ⟨.inl rfl, rfl⟩))))
       ·refine qF rfl g45 (ls_skip (hK41 _ (rn 1 rfl (qk [1, 2, 6, 9, 11] rfl (qk [1, 2, 6, 9, 11] rfl ?_)))))
        obtain ⟨v46, g47, h⟩ := ob_some h
        refine ls_mark (src_box tbOk rfl rfl rfl) rfl rfl (laws_markHistory_m g47) (dp26 _) (sf_of (sfc (argd_flat ad98 _) (sfc (scc rfl (scc (sca ad147 _) scn)) (sfc (scc rfl (scc (sca gkc39_aaa _) scn)) (sfs (sfc rfl sfn)))))) rfl rfl ⟨by decide, by decide⟩ rfl rfl (kp [(1, aL c98_aaaaa a1), (2, .box [nI a0.1, aL c147_aaa a0.2]), (6, .box [nI v13.1, aL c39_aaa v13.2]), (9, .box [nI v46.1.1, oL 39 c39_ooo v46.1.2]), (11, nI v46.2)] rfl rfl (rn 1 rfl (rs (sp 2 rfl (?_)))))
        obtain ⟨v48, g49, h⟩ := ob_some h
        refine qC (qa rfl (erg (erc rfl (erc (erD ec39_ooo _) rfl))) (qs rfl eran)) (laws_heldHistory_s g49) (sp 1 rfl (evn (ls_seq_k fun K50 hK50 => rn 1 rfl ?_)))
        rcases cond_some h with ⟨g51, h⟩ | ⟨g51, h⟩
        ·exact qT rfl g51 (rn 1 rfl (ls_ret ((by cases h; exact ⟨.inl rfl, rfl⟩))))
        ·refine qF rfl g51 (ls_skip (hK50 _ (ls_seq_k fun K52 hK52 => rn 1 rfl ?_)))
         rcases cond_some h with ⟨g53, h⟩ | ⟨g53, h⟩
         ·exact qT rfl g53 (rn 1 rfl (qk [4] rfl (ls_ret ((by cases h; exact ⟨.inl rfl, rfl⟩)))))
         ·refine qF rfl g53 (ls_skip (hK52 _ (rs (sp 1 rfl (?_)))))
          obtain ⟨v54, g55, h⟩ := ob_some h
          refine qC (qa rfl (erg (erc rfl (erc (erG ec147_aaa _) rfl))) eran) (laws_toHistory_s g55) (sp 1 rfl (?_))
          obtain ⟨v56, g57, h⟩ := ob_some h
          refine qC (qa rfl (erG ec98_aaaaa _) eran) (laws_toCursorS_s g57) (?_)
          obtain ⟨v58, g59, h⟩ := ob_some h
          refine qC (qa rfl (erg (erc rfl (erc (erO ec39_ooo _) rfl))) (qa rfl (erO ec100_ooooo _) eran)) (impl_DropUnusedSnapshots_s g59) (sp 2 rfl (evn (ls_seq_k fun K60 hK60 => rs (sp 2 rfl (?_)))))
          obtain ⟨v61, g62, h⟩ := ob_some h
          refine qC (qa rfl (erg (erc rfl (erc (erD ec39_ooo _) rfl))) (qa rfl (erg (erc rfl (erc (erG ec39_aaa _) rfl))) eran)) (laws_eqHistory_s g62) (sp 1 rfl (evn ?_))
          rcases cond_some h with ⟨g63, h⟩ | ⟨g63, h⟩
          ·exact qT rfl g63 (rn 1 rfl (ls_ret ((by cases h; exact ⟨.inl rfl, rfl⟩))))
          ·refine qF rfl g63 (ls_skip (hK60 _ (rn 1 rfl (rs (sp 2 rfl (?_))))))
           obtain ⟨v64, g65, h⟩ := ob_some h
           refine qC (qa rfl (erg (erc rfl (erc (erD ec39_ooo _) rfl))) (qs rfl eran)) (laws_heldHistory_s g65) (sp 1 rfl (evn (qk [11, 12] rfl (ls_seq_k fun K66 hK66 => rn 1 rfl ?_))))
           rcases cond_some h with ⟨g67, h⟩ | ⟨g67, h⟩
           ·exact qT rfl g67 (rn 1 rfl (ls_ret ((by cases h; exact ⟨.inl rfl, rfl⟩))))
           ·refine qF rfl g67 (ls_skip (hK66 _ (ls_seq_k fun K68 hK68 => rn 1 rfl ?_)))
            rcases cond_some h with ⟨g69, h⟩ | ⟨g69, h⟩
            ·exact qT rfl g69 (rn 1 rfl (ls_ret ((by cases h; exact ⟨.inl rfl, rfl⟩))))
            ·exact qF rfl g69 (ls_skip (hK68 _ (rn 1 rfl (ls_ret ((by cases h; exact ⟨.inl rfl, rfl⟩))))))
end Go.Proofs.Ytcoalfphehhadaa
