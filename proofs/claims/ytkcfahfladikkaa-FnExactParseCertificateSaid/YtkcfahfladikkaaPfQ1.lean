/-
  Certificates read from text: the reference and the program agree. On the printed functions; conditions: the text's length.
-/
import Derived.Test.YtkcfahfladikkaaPeQ1
import Derived.Test.YtkcfahfladikkaaHpQ1
-- pure
namespace Go.Proofs.Ytkcfahfladikkaa
open Go.RowKit
set_option linter.unusedVariables false
set_option linter.unusedSimpArgs false
/-- names and whether they were read -/
def okLs : Option (List Int) → List Int × Bool
  | some v => (v, true)
  | none => ([], false)
theorem nv_pos {b : UInt8} {v : Int} (h : nvB b = some v) : 0 ≤ v := by rcases nm_cases h with h | h | h | h | h <;> omega
theorem i_nloop {s : List UInt8} (hl : s.length ≤ 1048576) : ∀ (d i : Nat) (acc : List Int) (f : Nat), i + d + 1 = s.length → acc.length ≤ i → d < f →
    loopF (impl_parseNames_B1 s) f (acc, (i : Int)) = some (match mapO nvB ((s.take (s.length - 1)).drop i) with
      | some ys => .inl (acc ++ ys)
      | none => .inr ([], false))
  | d, i, acc, 0, _, _, hf => absurd hf (by omega)
  | 0, i, acc, f + 1, hi, ha, hf => by
    rw [loopF_succ, impl_parseNames_B1]
    rw [wrap_in (by omega), decide_eq_false (by omega), cond_false, List.drop_eq_nil_of_le (by rw [List.length_take]; omega)]
    simp [mapO]
  | d + 1, i, acc, f + 1, hi, ha, hf => by
    have hk : i < s.length := by omega
    rw [loopF_succ, impl_parseNames_B1]
    rw [wrap_in (by omega), decide_eq_true (by omega), cond_true, i_inner hk hl, obs]
    have hm : i < (s.take (s.length - 1)).length := by rw [List.length_take]; omega
    have e : (s.take (s.length - 1))[i] = s[i] := by rw [List.getElem_take]
    rw [List.drop_eq_getElem_cons hm, mapO, e]
    cases h : nvB s[i] with
    | none => rfl
    | some v =>
      have hv := nv_pos h
      show cond (decide (v < 0)) _ _ = _
      rw [decide_eq_false (by omega), cond_false, chk_pos (by simp only [List.length_singleton]; unfold lim; omega), wrap_in (by omega), show ((i : Int) + 1) = ((i + 1 : Nat) : Int) by simp, i_nloop hl d (i + 1) (acc ++ [_]) f (by omega) (by simp; omega) (by omega)]
      simp only [Option.getD_some]
      cases mapO nvB ((s.take (s.length - 1)).drop (i + 1)) with
      | none => rfl
      | some ys => simp
theorem i_pnames {s : List UInt8} (hl : s.length ≤ 1048576) : impl_parseNames s = some (okLs (pnB s)) := by
  unfold impl_parseNames
  cases s with
  | nil => rfl
  | cons b q =>
    rw [pnB]
    cases q with
    | nil => rw [decide_eq_true (by simp), cond_true, if_neg (by simp)]; rfl
    | cons b2 q =>
      have hlen : (List.length (b :: b2 :: q) : Int) = ((q.length + 2 : Nat) : Int) := by simp only [List.length_cons]
      rw [hlen, decide_eq_false (by omega), cond_false, show geti (b :: b2 :: q) 0 = some b from rfl, obs, wrap_in (by simp only [List.length_cons] at hl; omega)]
      rw [show (((q.length + 2 : Nat) : Int) - 1) = ((q.length + 1 : Nat) : Int) by omega, geti_at (by simp), obs]
      have hb : ((b.toNat : Int) != 40) = !decide (b = 40) := by rw [bne, byte_eq (c := 40) (a := 40) rfl]
      have hlast : (b2 :: q).getLast? = some (b :: b2 :: q)[q.length + 1] := by
        rw [List.getLast?_eq_getElem?, show (b2 :: q).length - 1 = q.length by simp, List.getElem?_eq_getElem (by simp)]; rfl
      have hx : (((b :: b2 :: q)[q.length + 1].toNat : Int) != 41) = !decide ((b :: b2 :: q)[q.length + 1] = 41) := by rw [bne, byte_eq (c := 41) (a := 41) rfl]
      rw [hb, hx, hlast]
      by_cases h1 : b = 40
      · by_cases h2 : (b :: b2 :: q)[q.length + 1] = 41
        · rw [decide_eq_true h1, decide_eq_true h2, Bool.not_true, cond_false, cond_false, if_pos ⟨h1, by rw [h2]⟩, show (([] : List Int), (1 : Int)) = ([], ((1 : Nat) : Int)) from rfl, i_nloop hl q.length 1 [] fz (by simp only [List.length_cons]; omega) (by simp) (by simp only [List.length_cons] at hl; unfold fz; omega), obs]
          have e : ((b :: b2 :: q).take ((b :: b2 :: q).length - 1)).drop 1 = (b2 :: q).dropLast := by
            rw [List.dropLast_eq_take]; simp only [List.length_cons, Nat.add_sub_cancel, List.take_succ_cons, List.drop_succ_cons, List.drop_zero]
          rw [e]
          cases mapO nvB (b2 :: q).dropLast <;> rfl
        · rw [decide_eq_true h1, decide_eq_false h2, Bool.not_true, Bool.not_false, cond_false, cond_true, if_neg (by simp only [Option.some.injEq]; exact fun h => h2 h.2)]; rfl
      · rw [decide_eq_false h1, Bool.not_false, cond_true, if_neg (fun h => h1 h.1)]; rfl
/-! ### certificates as text -/
theorem names_len5 (o : List Int) : (namesB o).length ≤ o.length := names_len o
theorem frs_len {l : List (Int × Int)} {n : Nat} (hl : l.length ≤ n) : (frsB vRat l).length ≤ n * 42 := by
  unfold frsB
  split
  · simp
  · refine Nat.le_trans (join_len [32] 42 _ (fun w hw => ?_)) ?_
    · obtain ⟨x, hx, rfl⟩ := List.mem_map.1 hw
      have := fr_len x
      simp only [List.length_singleton]; omega
    · rw [List.length_map]; omega
theorem ints_len {l : List Int} {n : Nat} (hl : l.length ≤ n) (h : ∀ x ∈ l, InI x) : (intsT [32] l).length ≤ n * 21 := by
  unfold intsT
  refine Nat.le_trans (join_len [32] 21 _ (fun w hw => ?_)) ?_
  · obtain ⟨x, hx, rfl⟩ := List.mem_map.1 hw
    have := decI_len (h x hx)
    simp only [List.length_singleton]; omega
  · rw [List.length_map]; omega
/-- what is written can be written -/
def fitC (c : CertT) : Prop := c.1.length ≤ 1048577 ∧ c.2.1.length ≤ 1048577 ∧ c.2.2.1.length ≤ 1048577 ∧ (∀ x ∈ c.2.2.1, InI x) ∧ InI c.2.2.2.1 ∧ InI c.2.2.2.2
theorem s_fcert {c : CertT} (h : fitC c) : spec_FormatCertificate c = some (fcB vRat c) := by
  obtain ⟨h1, h2, h3, h4, h5, h6⟩ := h
  unfold spec_FormatCertificate fcB
  by_cases b1 : 5 < c.1.length
  · rw [decide_eq_true (by omega), cond_true, if_pos (.inl b1)]
  by_cases b2 : 4 < c.2.1.length
  · rw [decide_eq_false (by omega), cond_false, decide_eq_true (by omega), cond_true, if_pos (.inr (.inl b2))]
  by_cases b3 : 4 < c.2.2.1.length
  · rw [decide_eq_false (by omega), cond_false, decide_eq_false (by omega), cond_false, decide_eq_true (by omega), cond_true, if_pos (.inr (.inr (.inl b3)))]
  rw [decide_eq_false (by omega), cond_false, decide_eq_false (by omega), cond_false, decide_eq_false (by omega), cond_false, s_frats (by omega), obs, nil_beq]
  have hj : ∀ x, spec_FormatCertificate_J1 c (frsB vRat c.2.1) x = some (if x = true then [] else joinB [59] (partsB vRat c)) := by
    intro x
    have l1 := names_len5 c.1
    have l2 := frs_len (l := c.2.1) (n := 4) (by omega)
    have l3 := ints_len (l := c.2.2.1) (n := 4) (by omega) h4
    have l4 := decI_len h5
    have l5 := decI_len h6
    unfold spec_FormatCertificate_J1
    cases x with
    | true => rfl
    | false =>
      rw [cond_false, s_vars (by unfold lim; omega), obs, s_ints (by omega) h4, s_dec10 h5, s_dec10 h6, obs, obs, obs]
      repeat rw [chk_pos (by simp only [List.length_append, List.length_cons, List.length_nil]; unfold lim; omega)]
      simp [partsB, joinB]
  by_cases hf : frsB vRat c.2.1 = []
  · rw [decide_eq_true hf, cond_true, hj]
    congr 1
    by_cases hn : c.2.1 = []
    · rw [if_neg (by rw [hn]; simp), if_neg (by simp only [not_or, not_and]; exact ⟨b1, b2, b3, fun _ h => h hn⟩)]
    · have : 0 < c.2.1.length := List.length_pos_iff.2 hn
      rw [if_pos (by simp; omega), if_pos (.inr (.inr (.inr ⟨hf, hn⟩)))]
  · rw [decide_eq_false hf, cond_false, hj, if_neg (by simp), if_neg (by simp only [not_or, not_and]; exact ⟨b1, b2, b3, fun h => absurd h hf⟩)]
theorem i_fcert {c : CertT} (h : fitC c) : impl_FormatCertificate c = some (fcB vRat c) := by
  obtain ⟨h1, h2, h3, h4, h5, h6⟩ := h
  unfold impl_FormatCertificate fcB
  rw [i_frats h2, obs]
  by_cases b1 : 5 < c.1.length
  · rw [decide_eq_true (by omega), cond_true, if_pos (.inl b1)]; rfl
  by_cases b2 : 4 < c.2.1.length
  · rw [decide_eq_false (by omega), cond_false, decide_eq_true (by omega), cond_true, if_pos (.inr (.inl b2))]; rfl
  by_cases b3 : 4 < c.2.2.1.length
  · rw [decide_eq_false (by omega), cond_false, decide_eq_false (by omega), cond_false, decide_eq_true (by omega), cond_true, if_pos (.inr (.inr (.inl b3)))]; rfl
  rw [decide_eq_false (by omega), cond_false, decide_eq_false (by omega), cond_false, decide_eq_false (by omega), cond_false, nil_beq]
  have hj : ∀ x, impl_FormatCertificate_J1 c (frsB vRat c.2.1) x = some (if x = true then [] else joinB [59] (partsB vRat c)) := by
    intro x
    have l1 := names_len5 c.1
    have l2 := frs_len (l := c.2.1) (n := 4) (by omega)
    have l3 := ints_len (l := c.2.2.1) (n := 4) (by omega) h4
    have l4 := decI_len h5
    have l5 := decI_len h6
    unfold impl_FormatCertificate_J1
    cases x with
    | true => rfl
    | false =>
      rw [cond_false, i_names (by unfold lim; omega), obs, i_flist (by omega) h4, i_fmt h5, i_fmt h6, obs, obs, obs]
      repeat rw [chk_pos (by simp only [List.length_append, List.length_cons, List.length_nil]; unfold lim; omega)]
      simp [partsB, joinB]
  by_cases hf : frsB vRat c.2.1 = []
  · rw [decide_eq_true hf, cond_true, hj]
    congr 1
    by_cases hn : c.2.1 = []
    · rw [if_neg (by rw [hn]; simp), if_neg (by simp only [not_or, not_and]; exact ⟨b1, b2, b3, fun _ h => h hn⟩)]
    · have : 0 < c.2.1.length := List.length_pos_iff.2 hn
      rw [if_pos (by simp; omega), if_pos (.inr (.inr (.inr ⟨hf, hn⟩)))]
  · rw [decide_eq_false hf, cond_false, hj, if_neg (by simp), if_neg (by simp only [not_or, not_and]; exact ⟨b1, b2, b3, fun h => absurd h hf⟩)]
/-- a certificate and whether it was read -/
def okCt : Option CertT → CertT × Bool
  | some v => (v, true)
  | none => (([], [], [], 0, 0), false)
theorem in_l2 (s : List UInt8) : InI (l2B s) := by have := l2_rng s; unfold InI; omega
theorem sizes_in {s : List UInt8} : ∀ x ∈ szS s, InI x := by
  intro x hx
  unfold szS at hx
  split at hx
  · simp at hx
  · obtain ⟨w, _, rfl⟩ := List.mem_map.1 hx; exact in_l2 w
theorem sizes_len {s : List UInt8} (hl : s.length ≤ 1048576) : (szS s).length ≤ 1048577 := by
  unfold szS
  split
  · simp
  · rw [List.length_map]; exact (cut_lim 32 hl).1
theorem rats_len {s : List UInt8} (hl : s.length ≤ 1048576) : ((rtsB vRat s).getD []).length ≤ 1048577 := by
  cases h : rtsB vRat s with
  | none => simp
  | some r =>
    unfold rtsB at h
    split at h
    · injection h with h; subst h; simp
    · have := mapO_len h; have := (cut_lim 32 hl).1; simp; omega
theorem fit_s {p0 p1 p2 p3 p4 : List UInt8} (l0 : p0.length ≤ 1048576) (l1 : p1.length ≤ 1048576) (l2 : p2.length ≤ 1048576) : fitC (lsB p0, (rtsB vRat p1).getD [], szS p2, l2B p3, l2B p4) :=
  ⟨by have := ls_len p0; simp only; omega, rats_len l1, sizes_len l2, sizes_in, in_l2 p3, in_l2 p4⟩
theorem s_end {S : List UInt8} {o : List Int} {q : List (Int × Int) × Bool} {sz : List Int} {a b : Int} (h : fitC (o, q.1, sz, a, b)) : spec_ParseCertificate_J1 S o a b q sz = some (okCt (if fcB vRat (o, q.1, sz, a, b) = S then some (o, q.1, sz, a, b) else none)) := by
  unfold spec_ParseCertificate_J1
  rw [s_fcert h, obs]
  by_cases hs : fcB vRat (o, q.1, sz, a, b) = S
  · rw [if_pos hs, hs, beq_self_eq_true]; rfl
  · rw [if_neg hs, show (fcB vRat (o, q.1, sz, a, b) == S) = false by simp [hs]]; rfl
theorem getD_Q (r : Option (List (Int × Int))) : (okQs r).1 = r.getD [] := by cases r <;> rfl
theorem s_pc {S : List UInt8} (hl : S.length ≤ 1048576) : spec_ParseCertificate S = some (okCt (specR vRat S)) := by
  unfold spec_ParseCertificate specR
  rw [s_cut 59 (a := 59) rfl hl, obs]
  have hm := (cut_lim 59 hl).2
  generalize cutB 59 S = ws at hm
  match ws, hm with
  | [p0, p1, p2, p3, p4], hm =>
    have l0 := hm p0 (by simp)
    have l1 := hm p1 (by simp)
    have l2 := hm p2 (by simp)
    rw [show (((List.length [p0, p1, p2, p3, p4] : Nat) : Int) != 5) = false from rfl, cond_false]
    rw [show geti [p0, p1, p2, p3, p4] 0 = some p0 from rfl, show geti [p0, p1, p2, p3, p4] 1 = some p1 from rfl, show geti [p0, p1, p2, p3, p4] 2 = some p2 from rfl, show geti [p0, p1, p2, p3, p4] 3 = some p3 from rfl, show geti [p0, p1, p2, p3, p4] 4 = some p4 from rfl]
    simp only [obs]
    rw [s_list l0, s_num, s_num, s_prats l1]
    simp only [obs]
    rw [nil_beq]
    have hf := fit_s (p3 := p3) (p4 := p4) l0 l1 l2
    by_cases h2 : p2 = []
    · have e : szS p2 = [] := by unfold szS; rw [if_pos h2]
      rw [decide_eq_true h2, Bool.not_true, cond_false]
      rw [← getD_Q, e] at hf ⊢
      exact s_end hf
    · have e : szS p2 = (cutB 32 p2).map l2B := by unfold szS; rw [if_neg h2]
      have hc := (cut_lim 32 l2).1
      rw [decide_eq_false h2, Bool.not_false, cond_true, s_cut 32 (a := 32) rfl l2, obs]
      rw [map_loop (a := cutB 32 p2) (h := l2B) (by unfold lim; omega) (fun k hk rec => by
        rw [spec_ParseCertificate_B2]
        rw [lt_dec hk, geti_at hk, wrap_in (by omega), cond_true, obs, s_num, obs, chk_pos (by simp only [List.length_map, List.length_take, List.length_singleton]; unfold lim; omega)]; rfl) (fun rec y => by rw [spec_ParseCertificate_B2]; rw [nlt_dec]; rfl), obs, ← e]
      rw [← getD_Q] at hf ⊢
      exact s_end hf
  | [], _ => rfl
  | [_], _ => rfl
  | [_, _], _ => rfl
  | [_, _, _], _ => rfl
  | [_, _, _, _], _ => rfl
  | _ :: _ :: _ :: _ :: _ :: _ :: ws, _ =>
    rw [show (((List.length (_ :: _ :: _ :: _ :: _ :: _ :: ws) : Nat) : Int) != 5) = true by simp only [List.length_cons]; rw [bne_iff_ne]; omega]; rfl
end Go.Proofs.Ytkcfahfladikkaa
