/-
  Certificates read from text: the program's reading, and that it agrees with the reference's. On the printed functions; conditions: the text's length.
-/
import Derived.Test.YtkcfahfladikkaaPfQ1
-- pure
namespace Go.Proofs.Ytkcfahfladikkaa
open Go.RowKit
set_option linter.unusedVariables false
set_option linter.unusedSimpArgs false
def endR (S : List UInt8) (sz : List Int) (o : Option (List Int)) (cv : Option (List (Int × Int))) (r k : Option Int) : Option CertT := match o, cv, r, k with
  | some o, some cv, some r, some k => if fcB vRat (o, cv, sz, r, k) = S then some (o, cv, sz, r, k) else none
  | _, _, _, _ => none
theorem i_end {S p0 p1 p2 p3 p4 : List UInt8} {sz : List Int} (o : Option (List Int)) (cv : Option (List (Int × Int))) (hf : ∀ o' cv' r k, o = some o' → cv = some cv' → rdB 11 p3 = some r → rdB 11 p4 = some k → fitC (o', cv', sz, r, k)) :
    impl_ParseCertificate_J1 S [p0, p1, p2, p3, p4] (okLs o) (okQs cv) sz = some (okCt (endR S sz o cv (rdB 11 p3) (rdB 11 p4))) := by
  unfold impl_ParseCertificate_J1
  rw [show geti [p0, p1, p2, p3, p4] 3 = some p3 from rfl, show geti [p0, p1, p2, p3, p4] 4 = some p4 from rfl]
  simp only [obs]
  rw [i_wide, i_wide]
  simp only [obs]
  cases o with
  | none => rfl
  | some o =>
    cases cv with
    | none => rfl
    | some cv =>
      cases h3 : rdB 11 p3 with
      | none => rfl
      | some r =>
        cases h4 : rdB 11 p4 with
        | none => rfl
        | some k =>
          show obind (impl_FormatCertificate (o, cv, sz, r, k)) _ = _
          rw [i_fcert (hf o cv r k rfl rfl h3 h4), obs]
          unfold endR
          by_cases hs : fcB vRat (o, cv, sz, r, k) = S
          · simp only [hs, beq_self_eq_true, if_true]; rfl
          · simp only [if_neg hs]
            rw [show (fcB vRat (o, cv, sz, r, k) == S) = false by simp [hs]]; rfl
theorem i_pc {S : List UInt8} (hl : S.length ≤ 1048576) : impl_ParseCertificate S = some (okCt (implR vRat S)) := by
  unfold impl_ParseCertificate implR
  rw [i_cut 59 (a := 59) rfl hl, obs]
  have hm := (cut_lim 59 hl).2
  generalize cutB 59 S = ws at hm
  match ws, hm with
  | [p0, p1, p2, p3, p4], hm =>
    have l0 := hm p0 (by simp)
    have l1 := hm p1 (by simp)
    have l2 := hm p2 (by simp)
    rw [show (((List.length [p0, p1, p2, p3, p4] : Nat) : Int) != 5) = false from rfl, cond_false]
    rw [show geti [p0, p1, p2, p3, p4] 0 = some p0 from rfl, show geti [p0, p1, p2, p3, p4] 1 = some p1 from rfl, show geti [p0, p1, p2, p3, p4] 2 = some p2 from rfl]
    simp only [obs]
    rw [i_pnames l0, i_prats l1]
    simp only [obs]
    rw [nil_beq]
    have hf : ∀ sz, szI p2 = some sz → ∀ o' cv' r k, pnB p0 = some o' → rtsB vRat p1 = some cv' → rdB 11 p3 = some r → rdB 11 p4 = some k → fitC (o', cv', sz, r, k) := by
      intro sz hz o' cv' r k h1 h2 h3 h4
      have := fit_s (p0 := p0) (p1 := p1) (p2 := p2) (p3 := p3) (p4 := p4) l0 l1 l2
      rw [pn_ls h1, h2, szI_S hz, rd_l2 (by omega) h3, rd_l2 (by omega) h4, Option.getD_some] at this
      exact this
    have fin : ∀ sz, szI p2 = some sz → impl_ParseCertificate_J1 S [p0, p1, p2, p3, p4] (okLs (pnB p0)) (okQs (rtsB vRat p1)) sz = some (okCt (match szI p2, pnB p0, rtsB vRat p1, rdB 11 p3, rdB 11 p4 with
        | some sz, some o, some cv, some rw_, some sk => if fcB vRat (o, cv, sz, rw_, sk) = S then some (o, cv, sz, rw_, sk) else none
        | _, _, _, _, _ => none)) := by
      intro sz hz
      rw [i_end _ _ (hf sz hz), hz]
      cases pnB p0 <;> cases rtsB vRat p1 <;> cases rdB 11 p3 <;> cases rdB 11 p4 <;> rfl
    by_cases h2 : p2 = []
    · rw [decide_eq_true h2, Bool.not_true, cond_false]
      exact fin [] (by unfold szI; rw [if_pos h2])
    · have hc := (cut_lim 32 l2).1
      have e : szI p2 = mapO (rdB 11) (cutB 32 p2) := by unfold szI; rw [if_neg h2]
      rw [decide_eq_false h2, Bool.not_false, cond_true, i_cut 32 (a := 32) rfl l2, obs]
      rw [read_loop (ws := cutB 32 p2) (rdB 11) ((([], [], [], 0, 0) : CertT), false) (by unfold lim; omega) (fun k hk acc rec ha => by
        rw [impl_ParseCertificate_B2]
        rw [lt_dec hk, cond_true, geti_at hk, obs, i_wide, obs, wrap_in (by omega)]
        cases rdB 11 (cutB 32 p2)[k] with
        | none => rfl
        | some y =>
          show cond (!true) _ _ = _
          rw [Bool.not_true, cond_false, chk_pos (by simp only [List.length_singleton]; unfold lim; omega)]; rfl) (fun acc rec => by rw [impl_ParseCertificate_B2]; rw [nlt_dec]; rfl), obs]
      cases hz : mapO (rdB 11) (cutB 32 p2) with
      | some ys =>
        have := fin ys (e.trans hz)
        rw [e, hz] at this
        rw [e, hz]
        exact this
      | none => rw [e, hz]; rfl
  | [], _ => rfl
  | [_], _ => rfl
  | [_, _], _ => rfl
  | [_, _, _], _ => rfl
  | [_, _, _, _], _ => rfl
  | _ :: _ :: _ :: _ :: _ :: _ :: ws, _ =>
    rw [show (((List.length (_ :: _ :: _ :: _ :: _ :: _ :: ws) : Nat) : Int) != 5) = true by simp only [List.length_cons]; rw [bne_iff_ne]; omega]; rfl
theorem pure_ParseCertificate {S : List UInt8} (s0 : List.length S ≤ 1048576) (k0 : List.length S ≤ maxLen) : ∃ r, spec_ParseCertificate S = some r ∧ impl_ParseCertificate S = some r ∧ sm_Certificate r.1 := by
  refine ⟨okCt (specR vRat S), s_pc s0, by rw [i_pc s0, cert_same], ?_⟩
  have hn : ∀ c : CertT, fcB vRat c ≠ [] → sm_Certificate c := by
    intro c h
    unfold fcB at h
    split at h
    · exact absurd rfl h
    · rename_i hb
      simp only [not_or] at hb
      exact ⟨by show c.1.length ≤ 1048576; omega, by show c.2.1.length ≤ 1048576; omega, by show c.2.2.1.length ≤ 1048576; omega⟩
  have h0 : sm_Certificate (([], [], [], 0, 0) : CertT) := ⟨Nat.zero_le _, Nat.zero_le _, Nat.zero_le _⟩
  unfold specR
  split
  · rename_i p0 p1 p2 p3 p4 hS
    split
    · rename_i hg
      refine hn (lsB p0, (rtsB vRat p1).getD [], szS p2, l2B p3, l2B p4) (fun e => ?_)
      rw [e] at hg
      rw [← hg] at hS
      cases hS
    · exact h0
  · exact h0
end Go.Proofs.Ytkcfahfladikkaa
