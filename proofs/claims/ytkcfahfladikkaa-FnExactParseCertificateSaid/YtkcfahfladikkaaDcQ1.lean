/-
  Numbers, names and lists written as text: the reference and the program agree. On the printed functions; conditions: lengths and ranges.
-/
import Derived.Test.YtkcfahfladikkaaFhQ1
import Derived.Test.YtkcfahfladikkaaKc
-- pure
namespace Go.Proofs.Ytkcfahfladikkaa
open Go.RowKit
set_option linter.unusedVariables false
set_option linter.unusedSimpArgs false
theorem obs {α β : Type} (a : α) (f : α → Option β) : obind (some a) f = f a := rfl
/-- a number's digits -/
def dgI (n : Nat) : List Int := if n < 10 then [48 + (n : Int)] else dgI (n / 10) ++ [48 + ((n % 10 : Nat) : Int)]
termination_by n
decreasing_by omega
theorem dgI_one {n : Nat} (h : n < 10) : dgI n = [48 + (n : Int)] := by rw [dgI, if_pos h]
theorem dgI_step {n : Nat} (h : ¬ n < 10) : dgI n = dgI (n / 10) ++ [48 + ((n % 10 : Nat) : Int)] := by rw [dgI, if_neg h]
theorem dgI_len : ∀ (k n : Nat), n < 10 ^ (k + 1) → (dgI n).length ≤ k + 1
  | 0, n, h => by rw [dgI_one (by omega)]; simp
  | k + 1, n, h => by
    by_cases h10 : n < 10
    · rw [dgI_one h10]; simp
    · rw [dgI_step h10, List.length_append, List.length_singleton]
      have := dgI_len k (n / 10) (by rw [Nat.pow_succ] at h; omega)
      omega
def decN (n : Nat) : List UInt8 := bytesOf (dgI n)
def decI (n : Int) : List UInt8 := if n < 0 then 45 :: decN n.natAbs else decN n.toNat
theorem bytes_app (a b : List Int) : bytesOf (a ++ b) = bytesOf a ++ bytesOf b := by simp [bytesOf]
theorem bytes_len (a : List Int) : (bytesOf a).length = a.length := by simp [bytesOf]
theorem decN_len {n : Nat} (h : n < 10000000000000000000) : (decN n).length ≤ 19 := by
  unfold decN; rw [bytes_len]; exact dgI_len 18 n (by simpa using h)
theorem decI_len {n : Int} (h : InI n) : (decI n).length ≤ 20 := by
  unfold InI at h
  unfold decI
  split
  · rw [List.length_cons]; have := decN_len (n := n.natAbs) (by omega); omega
  · have := decN_len (n := n.toNat) (by omega); omega
theorem dig_w {d : Nat} (h : d < 10) : IntKind.u8.wrap (IntKind.i64.wrap (48 + (d : Int))) = 48 + (d : Int) := by
  rw [wrap_in (by omega)]
  unfold IntKind.wrap
  simp [IntKind.signed, IntKind.bits] <;> omega
theorem mod_n (m : Nat) : (m : Int).tmod 10 = ((m % 10 : Nat) : Int) := by rw [Int.tmod_eq_emod_of_nonneg (by omega)]; omega
theorem div_n (m : Nat) : (m : Int).tdiv 10 = ((m / 10 : Nat) : Int) := by rw [Int.tdiv_eq_ediv_of_nonneg (by omega)]; omega
theorem mod_m (m : Nat) : (-(m : Int)).tmod 10 = -((m % 10 : Nat) : Int) := by rw [Int.neg_tmod, mod_n]
theorem div_m (m : Nat) : (-(m : Int)).tdiv 10 = -((m / 10 : Nat) : Int) := by rw [Int.neg_tdiv, div_n]
/-- the digits one by one, from the last -/
theorem i_digits : ∀ (k m : Nat) (x : Int) (ds : List Int) (f : Nat), m < 10 ^ (k + 1) → x.natAbs = m → InI x → ds.length + k ≤ 100 → k < f → loopF impl_FormatInt_B1 f (x, ds) = some (dgI m ++ ds)
  | k, m, x, ds, 0, _, _, _, _, hf => absurd hf (by omega)
  | k, m, x, ds, f + 1, hm, hx, hi, hd, hf => by
    unfold InI at hi
    have hq : (x.tdiv 10).natAbs = m / 10 := by
      by_cases h : x < 0
      · obtain rfl : x = -(m : Int) := by omega
        rw [div_m]; omega
      · obtain rfl : x = (m : Int) := by omega
        rw [div_n]; omega
    have hj : ∀ rec : Int × List Int → Option (List Int), impl_FormatInt_B1 rec (x, ds) = impl_FormatInt_J2 rec x ds ((m % 10 : Nat) : Int) := by
      intro rec
      rw [impl_FormatInt_B1]
      by_cases h : x < 0
      · obtain rfl : x = -(m : Int) := by omega
        rw [mod_m]
        by_cases h0 : m % 10 = 0
        · rw [h0]; rfl
        · rw [decide_eq_true (by omega), cond_true, wrap_in (by omega)]
          congr 1
          omega
      · obtain rfl : x = (m : Int) := by omega
        rw [mod_n, decide_eq_false (by omega)]; rfl
    rw [loopF_succ, hj, impl_FormatInt_J2, dig_w (by omega), chk_pos (by simp only [List.length_singleton]; unfold lim; omega), wrap_in (by omega)]
    by_cases h10 : m < 10
    · have e : (x.tdiv 10 == 0) = true := by simp; omega
      rw [e, cond_true, dgI_one h10, Nat.mod_eq_of_lt h10]
    · have e : (x.tdiv 10 == 0) = false := by simp; omega
      rw [e, cond_false, dgI_step h10]
      cases k with
      | zero => omega
      | succ k =>
        rw [i_digits k (m / 10) (x.tdiv 10) _ f (by rw [Nat.pow_succ] at hm; omega) hq (by unfold InI; omega) (by simp; omega) (by omega), List.append_assoc]
theorem i_fmt {n : Int} (h : InI n) : impl_FormatInt n = some (decI n) := by
  have hl := decI_len h
  unfold InI at h
  unfold impl_FormatInt
  rw [i_digits 18 n.natAbs n [] fz (by have : (10 : Nat) ^ 19 = 10000000000000000000 := by decide
                                       omega) rfl h (by simp) (by unfold fz; omega), obs, List.append_nil]
  unfold decI at hl ⊢
  by_cases h0 : n < 0
  · rw [if_pos h0, List.length_cons] at hl
    rw [decide_eq_true h0, cond_true, if_pos h0, chk_pos (by unfold decN at hl; simp only [List.length_singleton]; unfold lim; omega)]
    rfl
  · rw [decide_eq_false h0, cond_false, if_neg h0]
    show some (decN n.natAbs) = some (decN n.toNat)
    rw [show n.natAbs = n.toNat by omega]
theorem s_decN : ∀ (k m f : Nat), m < 10 ^ (k + 1) → k ≤ 18 → k < f → loopF spec_l2Dec_R f (m : Int) = some (decN m)
  | k, m, 0, _, _, hf => absurd hf (by omega)
  | k, m, f + 1, hm, hk, hf => by
    have hm19 : m < 10000000000000000000 := by
      have : (10 : Nat) ^ (k + 1) ≤ 10 ^ 19 := Nat.pow_le_pow_right (by omega) (by omega)
      have e : (10 : Nat) ^ 19 = 10000000000000000000 := by decide
      omega
    rw [loopF_succ, spec_l2Dec_R, decide_eq_false (by omega : ¬ (m : Int) ≤ -10), decide_eq_false (by omega : ¬ (m : Int) < 0)]
    simp only [cond_false]
    by_cases h10 : m < 10
    · rw [decide_eq_true (by omega), cond_true, dig_w h10]
      unfold decN
      rw [dgI_one h10]
    · rw [decide_eq_false (by omega), cond_false, div_n, mod_n]
      by_cases hw : m < 9223372036854775808
      · cases k with
        | zero => omega
        | succ k =>
          have hl := decN_len (n := m / 10) (by omega)
          rw [wrap_in (by omega), s_decN k (m / 10) f (by rw [Nat.pow_succ] at hm; omega) (by omega) (by omega), obs, dig_w (by omega), chk_pos (by rw [bytes_len]; simp only [List.length_singleton]; unfold lim; omega)]
          unfold decN
          rw [dgI_step h10, bytes_app]
      · cases k with
        | zero => omega
        | succ k =>
          have hl := decN_len (n := m / 10) (by omega)
          rw [wrap_in (by omega), s_decN k (m / 10) f (by rw [Nat.pow_succ] at hm; omega) (by omega) (by omega), obs, dig_w (by omega), chk_pos (by rw [bytes_len]; simp only [List.length_singleton]; unfold lim; omega)]
          unfold decN
          rw [dgI_step h10, bytes_app]
theorem s_dec10 {n : Int} (h : InI n) : spec_l2Dec n = some (decI n) := by
  unfold InI at h
  have e19 : (10 : Nat) ^ (18 + 1) = 10000000000000000000 := by decide
  unfold spec_l2Dec decI
  by_cases h0 : n < 0
  · rw [if_pos h0]
    obtain ⟨m, rfl⟩ : ∃ m : Nat, n = -(m : Int) := ⟨n.natAbs, by omega⟩
    have hab : (-(m : Int)).natAbs = m := by omega
    have hfz : fz = (fz - 1) + 1 := by unfold fz; rfl
    rw [hfz, loopF_succ, spec_l2Dec_R, hab]
    have hf1 : 18 < fz - 1 := by unfold fz; omega
    generalize fz - 1 = F at hf1
    by_cases h10 : m < 10
    · have hl := decN_len (n := m) (by omega)
      rw [decide_eq_false (by omega), cond_false, decide_eq_true (by omega), cond_true, wrap_in (by omega), show (0 : Int) - -(m : Int) = (m : Int) by omega, s_decN 18 m F (by omega) (by omega) hf1, obs, chk_pos (by simp only [List.length_singleton]; unfold lim; omega)]
      rfl
    · have hl := decN_len (n := m / 10) (by omega)
      have hl2 := decN_len (n := m % 10) (by omega)
      rw [decide_eq_true (by omega), cond_true, div_m, mod_m, wrap_in (n := -((m / 10 : Nat) : Int)) (by omega), wrap_in (n := 0 - -((m / 10 : Nat) : Int)) (by omega), wrap_in (n := 0 - -((m % 10 : Nat) : Int)) (by omega), show (0 : Int) - -((m / 10 : Nat) : Int) = ((m / 10 : Nat) : Int) by omega, show (0 : Int) - -((m % 10 : Nat) : Int) = ((m % 10 : Nat) : Int) by omega,
        s_decN 18 (m / 10) F (by omega) (by omega) hf1, obs, chk_pos (by simp only [List.length_singleton]; unfold lim; omega), s_decN 18 (m % 10) F (by omega) (by omega) hf1, obs, chk_pos (by simp only [List.length_append, List.length_singleton]; unfold lim; omega)]
      unfold decN
      rw [dgI_step h10, bytes_app, dgI_one (n := m % 10) (by omega)]
      rfl
  · rw [if_neg h0]
    obtain ⟨m, rfl⟩ : ∃ m : Nat, n = (m : Int) := ⟨n.toNat, by omega⟩
    rw [Int.toNat_natCast]
    exact s_decN 18 m fz (by omega) (by omega) (by unfold fz; omega)
/-- the name of a variable -/
def nameB (v : Int) : List UInt8 := if btw v 0 4 = true then subl [88, 89, 90, 85, 86] v (v + 1) else []
theorem nameB_len (v : Int) : (nameB v).length ≤ 1 := by
  unfold nameB
  split
  · rename_i h
    unfold btw at h
    simp only [Bool.and_eq_true, decide_eq_true_eq] at h
    unfold subl
    rw [List.length_drop, List.length_take]
    omega
  · simp
theorem s_vname (v : Int) : spec_VariableName v = some (nameB v) := by
  unfold spec_VariableName nameB
  rw [s_l1In, obs]
  cases h : btw v 0 4 with
  | false => rfl
  | true =>
    unfold btw at h
    simp only [Bool.and_eq_true, decide_eq_true_eq] at h
    rw [Bool.not_true, cond_false, wrap_in (by omega), chk_pos (by simp; omega), if_pos rfl]
theorem i_vname (v : Int) : impl_VariableName v = some (nameB v) := by
  unfold impl_VariableName nameB
  rw [i_within, obs]
  cases h : btw v 0 4 with
  | false => rfl
  | true =>
    unfold btw at h
    simp only [Bool.and_eq_true, decide_eq_true_eq] at h
    rw [Bool.not_true, cond_false, wrap_in (by omega), chk_pos (by simp; omega), if_pos rfl]
def namesB (l : List Int) : List UInt8 := l.flatMap nameB
theorem names_len : ∀ l : List Int, (namesB l).length ≤ l.length
  | [] => by simp [namesB]
  | x :: l => by
    have h1 := nameB_len x
    have h2 := names_len l
    unfold namesB at h2 ⊢
    rw [List.flatMap_cons, List.length_append, List.length_cons]; omega
theorem flat_s {α β : Type} (f : α → List β) {l : List α} {k : Nat} (hk : k < l.length) : (l.take (k + 1)).flatMap f = (l.take k).flatMap f ++ f l[k] := by
  rw [List.take_succ_eq_append_getElem hk, List.flatMap_append]; simp
theorem i_names {l : List Int} (h : l.length < lim) : impl_namesOf l = some (namesB l) := by
  unfold impl_namesOf
  have := loop_to (body := impl_namesOf_B1 l) (out := namesB l) (fun k => (namesB (l.take k), (k : Int))) l.length (fun k hk rec => by
    have h1 := names_len (l.take k)
    have h2 := nameB_len l[k]
    rw [List.length_take] at h1
    rw [impl_namesOf_B1]
    rw [lt_dec hk, geti_at hk, wrap_s hk (lim_max (by omega)), cond_true, obs, i_vname, obs, chk_pos (by omega)]
    unfold namesB
    rw [flat_s _ hk]) (fun rec => by rw [impl_namesOf_B1]; rw [nlt_dec, List.take_length]; rfl) fz (lt_fz (by omega))
  rw [show ((([] : List UInt8), (0 : Int))) = (namesB (l.take 0), ((0 : Nat) : Int)) from rfl, this]
  rfl
theorem s_vars {l : List Int} (h : l.length + 2 ≤ lim) : spec_l7Vars l = some (40 :: (namesB l ++ [41])) := by
  unfold spec_l7Vars
  have h3 := names_len l
  have := loop_to (body := spec_l7Vars_B1 l) (out := 40 :: namesB l) (fun k => (40 :: namesB (l.take k), (k : Int))) l.length (fun k hk rec => by
    have h1 := names_len (l.take k)
    have h2 := nameB_len l[k]
    rw [List.length_take] at h1
    rw [spec_l7Vars_B1]
    rw [lt_dec hk, geti_at hk, wrap_s hk (lim_max (by omega)), cond_true, obs, s_vname, obs, chk_pos (by rw [List.length_cons]; omega)]
    unfold namesB
    rw [flat_s _ hk]
    rfl) (fun rec => by rw [spec_l7Vars_B1]; rw [nlt_dec, List.take_length]; rfl) fz (lt_fz (by omega))
  rw [show ((([40] : List UInt8), (0 : Int))) = (40 :: namesB (l.take 0), ((0 : Nat) : Int)) from rfl, this, obs, chk_pos (by simp only [List.length_cons, List.length_nil]; omega)]
  rfl
/-- words with a sign between -/
def joinB (sep : List UInt8) : List (List UInt8) → List UInt8
  | [] => []
  | w :: ws => w ++ ws.flatMap fun u => sep ++ u
theorem join_snoc (sep : List UInt8) (w : List UInt8) : ∀ ws : List (List UInt8), joinB sep (ws ++ [w]) = if ws.length = 0 then w else joinB sep ws ++ sep ++ w
  | [] => by simp [joinB]
  | v :: ws => by
    rw [if_neg (by simp), List.cons_append, joinB, joinB, List.flatMap_append]
    simp
theorem join_len (sep : List UInt8) (L : Nat) : ∀ ws : List (List UInt8), (∀ w ∈ ws, w.length + sep.length ≤ L) → (joinB sep ws).length ≤ ws.length * L
  | [], _ => by simp [joinB]
  | w :: ws, h => by
    have h1 := h w (by simp)
    have key : ∀ us : List (List UInt8), (∀ w ∈ us, w.length + sep.length ≤ L) → (us.flatMap fun u => sep ++ u).length ≤ us.length * L := by
      intro us
      induction us with
      | nil => intro _; simp
      | cons u us ih =>
        intro hu
        have h2 := hu u (by simp)
        have h3 := ih (fun w hw => hu w (by simp [hw]))
        rw [List.flatMap_cons, List.length_append, List.length_append, List.length_cons, Nat.add_mul]
        omega
    have h2 := key ws (fun w hw => h w (by simp [hw]))
    rw [joinB, List.length_append, List.length_cons, Nat.add_mul]
    omega
theorem i_join {ws : List (List UInt8)} {sep : List UInt8} {L : Nat} (h : ∀ w ∈ ws, w.length + sep.length ≤ L) (hl : ws.length * L ≤ lim) (hn : ws.length ≤ lim) : impl_join ws sep = some (joinB sep ws) := by
  unfold impl_join
  have := loop_to (body := impl_join_B1 ws sep) (out := joinB sep ws) (fun k => (joinB sep (ws.take k), (k : Int))) ws.length (fun k hk rec => by
    have h1 := join_len sep L (ws.take k) (fun w hw => h w (List.mem_of_mem_take hw))
    rw [List.length_take, Nat.min_eq_left (by omega)] at h1
    have h2 := h _ (List.getElem_mem hk)
    have h3 : k * L + L ≤ ws.length * L := by rw [← Nat.succ_mul]; exact Nat.mul_le_mul_right _ hk
    rw [impl_join_B1]
    rw [lt_dec hk, geti_at hk, cond_true, obs, List.take_succ_eq_append_getElem hk, join_snoc, List.length_take, Nat.min_eq_left (by omega)]
    by_cases h0 : 0 < k
    · rw [decide_eq_true (by omega : (0 : Int) < (k : Int)), cond_true, if_neg (by omega), chk_pos (by omega), impl_join_J2, chk_pos (by rw [List.length_append]; omega), wrap_s hk (lim_max hn)]
    · obtain rfl : k = 0 := by omega
      rw [decide_eq_false (by simp), cond_false, if_pos rfl, impl_join_J2, wrap_s hk (lim_max hn)]
      rw [chk_pos (by simp [joinB]; omega)]
      simp [joinB]) (fun rec => by rw [impl_join_B1]; rw [nlt_dec, List.take_length]; rfl) fz (lt_fz hn)
  rw [show ((([] : List UInt8), (0 : Int))) = (joinB sep (ws.take 0), ((0 : Nat) : Int)) from rfl, this]
  rfl
def intsT (sep : List UInt8) (l : List Int) : List UInt8 := joinB sep (l.map decI)
theorem i_flist {l : List Int} {c : UInt8} (hl : l.length ≤ 1048576) (h : ∀ x ∈ l, InI x) : impl_formatList l [c] = some (intsT [c] l) := by
  unfold impl_formatList intsT
  rw [map_loop (a := l) (h := decI) (by unfold lim; omega) (fun k hk rec => by
    rw [impl_formatList_B1]
    rw [lt_dec hk, geti_at hk, wrap_s hk (by unfold maxLen; omega), cond_true, obs, i_fmt (h _ (List.getElem_mem hk)), obs, chk_pos (by simp only [List.length_map, List.length_take, List.length_singleton]; unfold lim; omega)]) (fun rec y => by rw [impl_formatList_B1]; rw [nlt_dec]; rfl), obs,
    i_join (L := 21) (fun w hw => by
      obtain ⟨x, hx, rfl⟩ := List.mem_map.1 hw
      have := decI_len (h x hx)
      simp only [List.length_singleton]; omega) (by rw [List.length_map]; unfold lim; omega) (by rw [List.length_map]; unfold lim; omega), obs]
theorem s_ints {l : List Int} (hl : l.length ≤ 1048576) (h : ∀ x ∈ l, InI x) : spec_l34Ints l = some (intsT [32] l) := by
  unfold spec_l34Ints intsT
  have := loop_to (body := spec_l34Ints_B1 l) (out := joinB [32] (l.map decI)) (fun k => (joinB [32] ((l.map decI).take k), (k : Int))) l.length (fun k hk rec => by
    have hk' : k < (l.map decI).length := by rw [List.length_map]; exact hk
    have h1 := join_len [32] 21 ((l.map decI).take k) (fun w hw => by
      obtain ⟨x, hx, rfl⟩ := List.mem_map.1 (List.mem_of_mem_take hw)
      have := decI_len (h x hx)
      simp only [List.length_singleton]; omega)
    rw [List.length_take, Nat.min_eq_left (by omega)] at h1
    have h2 := decI_len (h _ (List.getElem_mem hk))
    rw [spec_l34Ints_B1]
    rw [lt_dec hk, cond_true, List.take_succ_eq_append_getElem hk', join_snoc, List.length_take, Nat.min_eq_left (by omega), List.getElem_map]
    by_cases h0 : 0 < k
    · rw [decide_eq_true (by omega : (0 : Int) < (k : Int)), cond_true, if_neg (by omega), chk_pos (by simp only [List.length_singleton]; unfold lim; omega), spec_l34Ints_J2, geti_at hk, obs, s_dec10 (h _ (List.getElem_mem hk)), obs, chk_pos (by rw [List.length_append]; simp only [List.length_singleton]; unfold lim; omega), wrap_s hk (by unfold maxLen; omega)]
    · obtain rfl : k = 0 := by omega
      rw [decide_eq_false (by simp), cond_false, if_pos rfl, spec_l34Ints_J2, geti_at hk, obs, s_dec10 (h _ (List.getElem_mem hk)), obs, wrap_s hk (by unfold maxLen; omega)]
      rw [chk_pos (by simp [joinB]; unfold lim; omega)]
      simp [joinB]) (fun rec => by
      have e : (l.map decI).take l.length = l.map decI := by rw [List.take_of_length_le (by simp)]
      rw [spec_l34Ints_B1]; rw [nlt_dec, e]; rfl) fz (lt_fz (by unfold lim; omega))
  rw [show ((([] : List UInt8), (0 : Int))) = (joinB [32] ((l.map decI).take 0), ((0 : Nat) : Int)) from rfl, this]
  rfl
end Go.Proofs.Ytkcfahfladikkaa
