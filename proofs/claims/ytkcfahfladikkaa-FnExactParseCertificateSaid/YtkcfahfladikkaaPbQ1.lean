/-
  Certificates read from text: rationals, and that two ways of reading a certificate agree. Over a test of rationals; conditions: none.
-/
import Derived.Test.YtkcfahfladikkaaPaQ1
-- pure
namespace Go.Proofs.Ytkcfahfladikkaa
open Go.RowKit
set_option linter.unusedVariables false
set_option linter.unusedSimpArgs false
/-- before and behind the first sign -/
def befB (c : UInt8) : List UInt8 → List UInt8
  | [] => []
  | x :: l => if x = c then [] else x :: befB c l
def aftB (c : UInt8) : List UInt8 → Option (List UInt8)
  | [] => none
  | x :: l => if x = c then some l else aftB c l
theorem bef_no (c : UInt8) : ∀ s, c ∉ befB c s
  | [] => by simp [befB]
  | x :: l => by
    rw [befB]
    split
    · simp
    · rename_i h
      simp only [List.mem_cons, not_or]
      exact ⟨fun e => h e.symm, bef_no c l⟩
theorem bef_aft (c : UInt8) : ∀ s, match aftB c s with
    | none => befB c s = s
    | some t => s = befB c s ++ c :: t
  | [] => rfl
  | x :: l => by
    have ih := bef_aft c l
    rw [aftB, befB]
    by_cases h : x = c
    · rw [if_pos h, if_pos h, h]; rfl
    · rw [if_neg h, if_neg h]
      cases ha : aftB c l with
      | none => rw [ha] at ih; simp only at ih ⊢; rw [ih]
      | some t => rw [ha] at ih; simp only at ih ⊢; rw [List.cons_append, ← ih]
section
variable (vR : Int × Int → Bool) (hv : ∀ r, vR r = true → r.1.natAbs ≤ 1000000000 ∧ r.2.natAbs ≤ 1000000000)
def frB (r : Int × Int) : List UInt8 := if vR r = true then (if r.2 = 1 then decI r.1 else decI r.1 ++ 47 :: decI r.2) else []
def rtC (s : List UInt8) : Int × Int := (l2B (befB 47 s), match aftB 47 s with
  | none => 1
  | some t => l2B t)
def rtB (s : List UInt8) : Option (Int × Int) := if frB vR (rtC s) = s ∧ s ≠ [] then some (rtC s) else none
def riB (s : List UInt8) : Option (Int × Int) := match cutB 47 s with
  | [w] => (match rdB 10 w with
    | some n => if frB vR (n, 1) = s ∧ s ≠ [] then some (n, 1) else none
    | none => none)
  | [w, t] => (match rdB 10 w, rdB 10 t with
    | some n, some d => if frB vR (n, d) = s ∧ s ≠ [] then some (n, d) else none
    | _, _ => none)
  | _ => none
include hv in
theorem fr_cut {r : Int × Int} (hne : frB vR r ≠ []) : (r.2 = 1 ∧ cutB 47 (frB vR r) = [decI r.1] ∨ r.2 ≠ 1 ∧ cutB 47 (frB vR r) = [decI r.1, decI r.2]) ∧ rdB 10 (decI r.1) = some r.1 ∧ rdB 10 (decI r.2) = some r.2 := by
  have e10 : (10 : Nat) ^ (9 + 1) = 10000000000 := by decide
  unfold frB at hne ⊢
  by_cases h : vR r = true
  · obtain ⟨h1, h2⟩ := hv r h
    rw [if_pos h]
    refine ⟨?_, rd_dec (k := 9) (by omega) (by omega), rd_dec (k := 9) (by omega) (by omega)⟩
    have h47 : ∀ n, (47 : UInt8) ∉ decI n := decI_no (.inr (.inl (by decide)))
    by_cases hd : r.2 = 1
    · rw [if_pos hd]; exact .inl ⟨hd, cut_none (h47 _)⟩
    · rw [if_neg hd]; exact .inr ⟨hd, by rw [cut_app (h47 _), cut_none (h47 _)]⟩
  · rw [if_neg h] at hne; exact absurd rfl hne
include hv in
theorem rt_same (s : List UInt8) : riB vR s = rtB vR s := by
  have hb := bef_aft 47 s
  have hn := bef_no 47 s
  unfold riB rtB rtC
  cases ha : aftB 47 s with
  | none =>
    rw [ha] at hb
    simp only at hb ⊢
    rw [hb] at hn ⊢
    rw [cut_none hn]
    simp only
    cases hr : rdB 10 s with
    | some n => rw [rd_l2 (by omega) hr]
    | none =>
      simp only
      rw [if_neg]
      rintro ⟨h1, h2⟩
      obtain ⟨hc, h3, _⟩ := fr_cut vR hv (r := (l2B s, 1)) (by rw [h1]; exact h2)
      rw [h1, cut_none hn] at hc
      simp only [List.cons.injEq, and_true, true_and, ne_eq, not_true_eq_false, false_and, or_false] at hc
      simp only at h3
      rw [← hc] at h3
      rw [hr] at h3; cases h3
  | some t =>
    rw [ha] at hb
    simp only at hb ⊢
    generalize hw : befB 47 s = w at hb hn
    have hcut : cutB 47 s = w :: cutB 47 t := by rw [hb, cut_app hn]
    have htn := cut_ne 47 t
    have key : frB vR (l2B w, l2B t) = s → s ≠ [] → cutB 47 t = [t] ∧ rdB 10 w = some (l2B w) ∧ rdB 10 t = some (l2B t) := by
      intro h1 h2
      obtain ⟨hc, h3, h4⟩ := fr_cut vR hv (r := (l2B w, l2B t)) (by rw [h1]; exact h2)
      rw [h1, hcut] at hc
      rcases hc with ⟨_, hc⟩ | ⟨_, hc⟩
      · injection hc with _ hc; exact absurd hc htn
      · injection hc with hc1 hc2
        have hj := join_cut 47 t
        rw [hc2] at hj
        have ht : decI (l2B t) = t := by simpa [joinB] using hj
        simp only at h3 h4 hc1
        rw [ht] at hc2 h4
        rw [← hc1] at h3
        exact ⟨hc2, h3, h4⟩
    rw [hcut]
    by_cases hg : frB vR (l2B w, l2B t) = s ∧ s ≠ []
    · obtain ⟨k1, k2, k3⟩ := key hg.1 hg.2
      rw [k1]
      simp only [k2, k3]
    · rw [if_neg hg]
      cases hct : cutB 47 t with
      | nil => exact absurd hct htn
      | cons t' ts =>
        cases ts with
        | cons _ _ => rfl
        | nil =>
          have hj := join_cut 47 t
          rw [hct] at hj
          have ht : t' = t := by simpa [joinB] using hj
          subst ht
          simp only
          cases h1 : rdB 10 w with
          | none => rfl
          | some n =>
            cases h2 : rdB 10 t' with
            | none => rfl
            | some d =>
              rw [rd_l2 (by omega) h1, rd_l2 (by omega) h2] at hg
              simp only
              rw [if_neg hg]
/-- lists of rationals -/
def rtsB (s : List UInt8) : Option (List (Int × Int)) := if s = [] then some [] else mapO (rtB vR) (cutB 32 s)
def frsB (l : List (Int × Int)) : List UInt8 := if (l.any fun r => frB vR r == []) = true then [] else joinB [32] (l.map (frB vR))
abbrev CertT := List Int × List (Int × Int) × List Int × Int × Int
def partsB (c : CertT) : List (List UInt8) := [40 :: (namesB c.1 ++ [41]), frsB vR c.2.1, intsT [32] c.2.2.1, decI c.2.2.2.1, decI c.2.2.2.2]
def fcB (c : CertT) : List UInt8 := if 5 < c.1.length ∨ 4 < c.2.1.length ∨ 4 < c.2.2.1.length ∨ (frsB vR c.2.1 = [] ∧ c.2.1 ≠ []) then [] else joinB [59] (partsB vR c)
def specR (S : List UInt8) : Option CertT := match cutB 59 S with
  | [p0, p1, p2, p3, p4] => if fcB vR (lsB p0, (rtsB vR p1).getD [], szS p2, l2B p3, l2B p4) = S then some (lsB p0, (rtsB vR p1).getD [], szS p2, l2B p3, l2B p4) else none
  | _ => none
def implR (S : List UInt8) : Option CertT := match cutB 59 S with
  | [p0, p1, p2, p3, p4] => (match szI p2, pnB p0, rtsB vR p1, rdB 11 p3, rdB 11 p4 with
    | some sz, some o, some cv, some rw_, some sk => if fcB vR (o, cv, sz, rw_, sk) = S then some (o, cv, sz, rw_, sk) else none
    | _, _, _, _, _ => none)
  | _ => none
theorem fr_no59 (r : Int × Int) : (59 : UInt8) ∉ frB vR r := by
  have h : ∀ n, (59 : UInt8) ∉ decI n := decI_no (.inr (.inr (by decide)))
  unfold frB
  split
  · split
    · exact h _
    · simp only [List.mem_append, List.mem_cons, not_or]; exact ⟨h _, by decide, h _⟩
  · simp
theorem join_no {c : UInt8} {sep : List UInt8} (hs : c ∉ sep) : ∀ {ws : List (List UInt8)}, (∀ w ∈ ws, c ∉ w) → c ∉ joinB sep ws
  | [], _ => by simp [joinB]
  | [w], h => by simpa [joinB] using h w (by simp)
  | w :: v :: ws, h => by
    rw [join_two, List.mem_append, List.mem_append]
    rintro (h1 | h1 | h1)
    · exact h w (by simp) h1
    · exact hs h1
    · exact join_no hs (fun u hu => h u (List.mem_cons_of_mem _ hu)) h1
theorem parts_no (c : CertT) (ho : ∀ v ∈ c.1, ∃ b, nvB b = some v) : ∀ w ∈ partsB vR c, (59 : UInt8) ∉ w := by
  have h : ∀ n, (59 : UInt8) ∉ decI n := decI_no (.inr (.inr (by decide)))
  intro w hw
  unfold partsB at hw
  simp only [List.mem_cons, List.not_mem_nil, or_false] at hw
  rcases hw with rfl | rfl | rfl | rfl | rfl
  · simp only [List.mem_cons, List.mem_append, List.not_mem_nil, or_false, not_or]
    exact ⟨by decide, (names_back ho).2, by decide⟩
  · unfold frsB
    split
    · simp
    · exact join_no (by decide) fun w hw => by obtain ⟨r, _, rfl⟩ := List.mem_map.1 hw; exact fr_no59 vR r
  · exact join_no (by decide) fun w hw => by obtain ⟨r, _, rfl⟩ := List.mem_map.1 hw; exact h r
  · exact h _
  · exact h _
theorem cert_same (S : List UInt8) : specR vR S = implR vR S := by
  unfold specR implR
  split
  · rename_i p0 p1 p2 p3 p4 hS
    by_cases hg : fcB vR (lsB p0, (rtsB vR p1).getD [], szS p2, l2B p3, l2B p4) = S
    · rw [if_pos hg]
      have hc : fcB vR (lsB p0, (rtsB vR p1).getD [], szS p2, l2B p3, l2B p4) = joinB [59] (partsB vR (lsB p0, (rtsB vR p1).getD [], szS p2, l2B p3, l2B p4)) := by
        by_cases hb : 5 < (lsB p0).length ∨ 4 < ((rtsB vR p1).getD []).length ∨ 4 < (szS p2).length ∨ (frsB vR ((rtsB vR p1).getD []) = [] ∧ (rtsB vR p1).getD [] ≠ [])
        · have e : fcB vR (lsB p0, (rtsB vR p1).getD [], szS p2, l2B p3, l2B p4) = [] := if_pos hb
          rw [e] at hg
          rw [← hg] at hS
          cases hS
        · exact if_neg hb
      have hp := cut_join (parts_no vR (lsB p0, (rtsB vR p1).getD [], szS p2, l2B p3, l2B p4) (fun v hv => ls_in hv)) (by simp [partsB])
      rw [← hc, hg, hS] at hp
      unfold partsB at hp
      simp only [List.cons.injEq, and_true] at hp
      obtain ⟨e0, e1, e2, e3, e4⟩ := hp
      have hr : ∃ cv, rtsB vR p1 = some cv := by
        cases hr : rtsB vR p1 with
        | some cv => exact ⟨cv, rfl⟩
        | none =>
          rw [hr] at e1
          have : p1 = [] := by rw [e1]; rfl
          unfold rtsB at hr
          rw [if_pos this] at hr; cases hr
      obtain ⟨cv, hr⟩ := hr
      rw [szS_I e2.symm, ls_pn e0, hr, l2_dec e3.symm, l2_dec e4.symm]
      simp only
      rw [hr, Option.getD_some] at hg
      rw [Option.getD_some, if_pos hg]
    · rw [if_neg hg]
      split
      · rename_i sz o cv r k h1 h2 h3 h4 h5
        rw [pn_ls h2, h3, szI_S h1, rd_l2 (by omega) h4, rd_l2 (by omega) h5, Option.getD_some] at hg
        rw [if_neg hg]
      · rfl
  · rfl
end
end Go.Proofs.Ytkcfahfladikkaa
