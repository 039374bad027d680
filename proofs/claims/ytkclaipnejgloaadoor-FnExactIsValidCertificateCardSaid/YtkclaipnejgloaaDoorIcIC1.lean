/-
  When a certificate is valid: the reference and the program agree. On the printed functions; conditions: lengths, numbers in range.
-/
import Derived.Test.YtkclaipnejgloaaDoorCtIC1
import Derived.Test.YtkclaipnejgloaaDoorTvIC1
-- pure
namespace Go.Proofs.YtkclaipnejgloaaDoor
open Go.RowKit
set_option linter.unusedVariables false
set_option linter.unusedSimpArgs false
abbrev Crt := List Int × List Rt × List Int × Int × Int
def smC (c : Crt) : Prop := c.1.length ≤ lim ∧ c.2.1.length ≤ lim ∧ c.2.2.1.length ≤ lim ∧ (∀ e ∈ c.2.2.1, e ≤ 9223372036854775807) ∧ c.2.2.2.1 ≤ 9223372036854775807 ∧ c.2.2.2.2 ≤ 9223372036854775807
def icB (q : Qry) (c : Crt) : Bool := ordB q c.1 && (coverB q c.2.1 && (((c.2.2.1.length : Int) == (q.2.1.length : Int)) && (!badAny c.2.2.1 (fun _ e => !btw e 0 16) && (wpB c.2.2.1 c.2.1 c.2.2.2.1 1 && (qryB q && wpB c.2.2.1 c.2.1 c.2.2.2.2 (skB q))))))
theorem s_ic {q : Qry} {c : Crt} (hq : smQ q) (hc : smC c) : spec_IsValidCertificate q c = some (icB q c) := by
  obtain ⟨h1, h2, h3, h4, h5, h6⟩ := hc
  unfold spec_IsValidCertificate icB
  rw [s_order hq h1, ob_s]
  cases ordB q c.1 with
  | false => rfl
  | true =>
    rw [Bool.not_true, cond_false, s_coverB hq h2 (fun a ha v => s_cv ha v), ob_s]
    cases coverB q c.2.1 with
    | false => rfl
    | true =>
      rw [Bool.not_true, cond_false, bne]
      cases ((c.2.2.1.length : Int) == (q.2.1.length : Int)) with
      | false => rfl
      | true =>
        rw [Bool.not_true, cond_false, all_loop (fun k => atB c.2.2.1 k fun e => !btw e 0 16) h3 (fun k hk rec => by
          unfold spec_IsValidCertificate_B1
          rw [lt_dec hk, cond_true, geti_at hk, ob_s, s_l1In, ob_s, wrap_s hk (lim_max h3), atB_lt hk]) (fun rec => by unfold spec_IsValidCertificate_B1; rw [nlt_dec, cond_false]), ob_s]
        have e : ((List.range c.2.2.1.length).any fun k => atB c.2.2.1 k fun e => !btw e 0 16) = badAny c.2.2.1 fun _ e => !btw e 0 16 := rfl
        rw [e]
        cases badAny c.2.2.1 fun _ e => !btw e 0 16 with
        | true => rfl
        | false =>
          simp only [cond_false]
          rw [s_agm h3 h4 h2 h5, ob_s]
          cases wpB c.2.2.1 c.2.1 c.2.2.2.1 1 with
          | false => rfl
          | true => rw [cond_true, s_seek hq h3 h4 h2 h6, ob_s]; rfl
theorem i_ic {q : Qry} {c : Crt} (hq : smQ q) (hc : smC c) : impl_IsValidCertificate q c = some (icB q c) := by
  obtain ⟨h1, h2, h3, h4, h5, h6⟩ := hc
  unfold impl_IsValidCertificate icB
  rw [i_order hq h1, ob_s]
  cases ordB q c.1 with
  | false => rfl
  | true =>
    rw [Bool.not_true, cond_false, i_coverB hq h2 (fun a ha v => i_cv ha v), ob_s]
    cases coverB q c.2.1 with
    | false => rfl
    | true =>
      rw [Bool.not_true, cond_false, bne]
      cases ((c.2.2.1.length : Int) == (q.2.1.length : Int)) with
      | false => rfl
      | true =>
        rw [Bool.not_true, cond_false, all_loop (fun k => atB c.2.2.1 k fun e => !btw e 0 16) h3 (fun k hk rec => by
          unfold impl_IsValidCertificate_B1
          rw [lt_dec hk, cond_true, geti_at hk, ob_s, i_within, ob_s, wrap_s hk (lim_max h3), atB_lt hk]) (fun rec => by unfold impl_IsValidCertificate_B1; rw [nlt_dec, cond_false]), ob_s]
        have e : ((List.range c.2.2.1.length).any fun k => atB c.2.2.1 k fun e => !btw e 0 16) = badAny c.2.2.1 fun _ e => !btw e 0 16 := rfl
        rw [e]
        cases badAny c.2.2.1 fun _ e => !btw e 0 16 with
        | true => rfl
        | false =>
          simp only [cond_false]
          rw [i_agm h3 h4 h2 h5, ob_s]
          cases wpB c.2.2.1 c.2.1 c.2.2.2.1 1 with
          | false => rfl
          | true => rw [cond_true, i_seek hq h3 h4 h2 h6, ob_s]; rfl
end Go.Proofs.YtkclaipnejgloaaDoor
