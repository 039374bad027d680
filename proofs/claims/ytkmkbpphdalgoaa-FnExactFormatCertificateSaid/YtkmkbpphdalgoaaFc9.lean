/-
  FormatCertificate of the reference and of the program as typed functions. No conditions.
-/
import Derived.Test.YtkmkbpphdalgoaaFc8
import Derived.Test.YtkmkbpphdalgoaaGo
namespace Go.Proofs.Ytkmkbpphdalgoaa
open Go.RowKit
instance (n : Int) : Decidable (InR n) := by unfold InR; infer_instance
def certPre (a : List Int × List (Int × Int) × List Int × Int × Int) : Prop := a.1.length ≤ 1048576 ∧ a.2.1.length ≤ 1048576 ∧ a.2.2.1.length ≤ 1048576 ∧ (∀ x ∈ a.2.2.1, InR x) ∧ InR a.2.2.2.1 ∧ InR a.2.2.2.2
instance (a : List Int × List (Int × Int) × List Int × Int × Int) : Decidable (certPre a) := by unfold certPre; infer_instance
def spec_FormatCertificate (a : List Int × List (Int × Int) × List Int × Int × Int) : Option (List UInt8) := if certPre a then some (certB a.1 a.2.1 a.2.2.1 a.2.2.2.1 a.2.2.2.2) else none
def impl_FormatCertificate (a : List Int × List (Int × Int) × List Int × Int × Int) : Option (List UInt8) := if certPre a then some (certB a.1 a.2.1 a.2.2.1 a.2.2.2.1 a.2.2.2.2) else none
theorem flat_map : ∀ l : List Int, l.flatMap ci64 = l.map vI
  | [] => rfl
  | n :: l => by rw [List.flatMap_cons, List.map_cons, flat_map l]; rfl
theorem spec_FormatCertificate_s {a : List Int × List (Int × Int) × List Int × Int × Int} {r : List UInt8} (h : spec_FormatCertificate a = some r) :
    SoundAt Try.prog 21 [.agg [.dat a.1.length (a.1.flatMap ci64), .dat a.2.1.length (a.2.1.flatMap fun p => [.int .i64 p.1, .int .i64 p.2]), .dat a.2.2.1.length (a.2.2.1.flatMap ci64), .int .i64 a.2.2.2.1, .int .i64 a.2.2.2.2]] (.str r) := by
  unfold spec_FormatCertificate at h
  split at h
  · rename_i hp
    obtain ⟨h1, h2, h3, h4, h5, h6⟩ := hp
    injection h with h
    subst h
    rw [flat_map, flat_map]
    exact specFormatCertificate_s _ _ _ _ _ h1 h2 h3 h4 h5 h6
  · cases h
theorem impl_FormatCertificate_s {a : List Int × List (Int × Int) × List Int × Int × Int} {r : List UInt8} (h : impl_FormatCertificate a = some r) :
    SoundAt Try.prog 23 [.agg [.dat a.1.length (a.1.flatMap ci64), .dat a.2.1.length (a.2.1.flatMap fun p => [.int .i64 p.1, .int .i64 p.2]), .dat a.2.2.1.length (a.2.2.1.flatMap ci64), .int .i64 a.2.2.2.1, .int .i64 a.2.2.2.2]] (.str r) := by
  unfold impl_FormatCertificate at h
  split at h
  · rename_i hp
    obtain ⟨h1, h2, h3, h4, h5, h6⟩ := hp
    injection h with h
    subst h
    rw [flat_map, flat_map]
    exact implFormatCertificate_s _ _ _ _ _ h1 h2 h3 h4 h5 h6
  · cases h
end Go.Proofs.Ytkmkbpphdalgoaa
