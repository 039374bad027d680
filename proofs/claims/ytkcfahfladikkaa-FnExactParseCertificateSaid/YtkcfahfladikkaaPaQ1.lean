/-
  Certificates read from text: words cut at a sign, numbers, names, and that two ways of reading agree. Plain Lean.
-/
import Derived.Test.YtkcfahfladikkaaDcQ1
-- pure
namespace Go.Proofs.Ytkcfahfladikkaa
open Go.RowKit
set_option linter.unusedVariables false
set_option linter.unusedSimpArgs false
/-- words put before -/
def preB (p : List UInt8) : List (List UInt8) → List (List UInt8)
  | [] => [p]
  | w :: ws => (p ++ w) :: ws
def cutB (c : UInt8) : List UInt8 → List (List UInt8)
  | [] => [[]]
  | x :: l => if x = c then [] :: cutB c l else preB [x] (cutB c l)
theorem pre_pre (p q : List UInt8) (ws : List (List UInt8)) : preB p (preB q ws) = preB (p ++ q) ws := by cases ws <;> simp [preB]
theorem pre_ne (p : List UInt8) (ws : List (List UInt8)) : preB p ws ≠ [] := by cases ws <;> simp [preB]
theorem cut_ne (c : UInt8) (s : List UInt8) : cutB c s ≠ [] := by
  cases s with
  | nil => simp [cutB]
  | cons x l =>
    rw [cutB]
    split
    · simp
    · exact pre_ne _ _
theorem pre_cut (c : UInt8) (s : List UInt8) : preB [] (cutB c s) = cutB c s := by
  have := cut_ne c s
  cases h : cutB c s with
  | nil => exact absurd h this
  | cons w ws => simp [preB]
theorem cut_none {c : UInt8} : ∀ {w : List UInt8}, c ∉ w → cutB c w = [w]
  | [], _ => rfl
  | x :: l, h => by
    simp only [List.mem_cons, not_or] at h
    rw [cutB, if_neg (fun e => h.1 e.symm), cut_none h.2]; rfl
theorem cut_app {c : UInt8} {t : List UInt8} : ∀ {w : List UInt8}, c ∉ w → cutB c (w ++ c :: t) = w :: cutB c t
  | [], _ => by rw [List.nil_append, cutB, if_pos rfl]
  | x :: l, h => by
    simp only [List.mem_cons, not_or] at h
    rw [List.cons_append, cutB, if_neg (fun e => h.1 e.symm), cut_app h.2]; rfl
theorem join_two (sep w v : List UInt8) (ws : List (List UInt8)) : joinB sep (w :: v :: ws) = w ++ (sep ++ joinB sep (v :: ws)) := by simp [joinB]
theorem cut_join {c : UInt8} : ∀ {ws : List (List UInt8)}, (∀ w ∈ ws, c ∉ w) → ws ≠ [] → cutB c (joinB [c] ws) = ws
  | [], _, h => absurd rfl h
  | [w], h, _ => by
    rw [show joinB [c] [w] = w by simp [joinB]]
    exact cut_none (h w (by simp))
  | w :: v :: ws, h, _ => by
    rw [join_two, List.singleton_append, cut_app (h w (by simp)), cut_join (fun u hu => h u (List.mem_cons_of_mem _ hu)) (by simp)]
theorem join_pre (sep p : List UInt8) (ws : List (List UInt8)) : joinB sep (preB p ws) = p ++ joinB sep ws := by cases ws <;> simp [preB, joinB]
theorem join_cut (c : UInt8) : ∀ s : List UInt8, joinB [c] (cutB c s) = s
  | [] => rfl
  | x :: l => by
    have ih := join_cut c l
    rw [cutB]
    split
    · rename_i e
      subst e
      have := cut_ne x l
      cases h : cutB x l with
      | nil => exact absurd h this
      | cons w ws => rw [join_two, ← h, ih]; rfl
    · rw [join_pre, ih]; rfl
theorem cut_len (c : UInt8) : ∀ s : List UInt8, (cutB c s).length ≤ s.length + 1
  | [] => by simp [cutB]
  | x :: l => by
    have ih := cut_len c l
    rw [cutB]
    split
    · simp only [List.length_cons]; omega
    · cases h : cutB c l with
      | nil => simp [preB]
      | cons w ws => rw [h] at ih; simp only [preB, List.length_cons] at ih ⊢; omega
theorem cut_mem (c : UInt8) : ∀ (s w : List UInt8), w ∈ cutB c s → w.length ≤ s.length
  | [], w, h => by simp [cutB] at h; simp [h]
  | x :: l, w, h => by
    have ih := cut_mem c l
    rw [cutB] at h
    split at h
    · simp only [List.mem_cons] at h
      rcases h with rfl | h
      · simp
      · have := ih w h; simp only [List.length_cons]; omega
    · cases hc : cutB c l with
      | nil => exact absurd hc (cut_ne c l)
      | cons v vs =>
        rw [hc] at h ih
        simp only [preB, List.mem_cons] at h
        rcases h with rfl | h
        · have := ih v (by simp); simp only [List.length_append, List.length_cons, List.length_nil]; omega
        · have := ih w (by simp [h]); simp only [List.length_cons]; omega
/-! ### numbers -/
def digB (l : List UInt8) : Bool := l.all fun b => decide (48 ≤ b.toNat) && decide (b.toNat ≤ 57)
def valB (l : List UInt8) : Nat := l.foldl (fun n b => 10 * n + (b.toNat - 48)) 0
def negB : List UInt8 → Bool
  | b :: _ => b.toNat == 45
  | [] => false
def magB (s : List UInt8) : List UInt8 := if negB s = true then s.tail else s
def sgB (s : List UInt8) (n : Nat) : Int := if negB s = true then -(n : Int) else (n : Int)
def l2B (s : List UInt8) : Int := if (magB s).length < 12 ∧ digB (magB s) = true then sgB s (valB (magB s)) else 0
def rdB (N : Nat) (s : List UInt8) : Option Int := if magB s = [] ∨ N < (magB s).length ∨ digB (magB s) = false then none else some (sgB s (valB (magB s)))
theorem rd_l2 {N : Nat} {s : List UInt8} {v : Int} (hN : N < 12) (h : rdB N s = some v) : l2B s = v := by
  unfold rdB at h
  split at h
  · cases h
  · rename_i hc
    injection h with h
    simp only [not_or, Bool.not_eq_false] at hc
    unfold l2B
    rw [if_pos ⟨by omega, hc.2.2⟩, h]
theorem byte_nat {k : Nat} (h : k < 10) : (UInt8.ofNat (48 + k)).toNat = 48 + k := by
  rw [UInt8.toNat_ofNat']; omega
theorem decN_one {n : Nat} (h : n < 10) : decN n = [UInt8.ofNat (48 + n)] := by
  unfold decN; rw [dgI_one h]; unfold bytesOf
  simp only [List.map_cons, List.map_nil, List.cons.injEq, and_true]
  congr 1
theorem decN_step {n : Nat} (h : ¬ n < 10) : decN n = decN (n / 10) ++ [UInt8.ofNat (48 + n % 10)] := by
  unfold decN; rw [dgI_step h, bytes_app]
  congr 1
theorem decN_dig (n : Nat) : digB (decN n) = true := by
  induction n using Nat.strongRecOn with
  | _ n ih =>
    by_cases h : n < 10
    · rw [decN_one h]; unfold digB; simp only [List.all_cons, List.all_nil, byte_nat h]; simp; omega
    · rw [decN_step h]
      have h1 := ih (n / 10) (by omega)
      unfold digB at h1 ⊢
      rw [List.all_append, h1]
      simp only [List.all_cons, List.all_nil, byte_nat (show n % 10 < 10 by omega)]; simp; omega
theorem val_snoc (l : List UInt8) (b : UInt8) : valB (l ++ [b]) = 10 * valB l + (b.toNat - 48) := by unfold valB; rw [List.foldl_append]; rfl
theorem decN_val (n : Nat) : valB (decN n) = n := by
  induction n using Nat.strongRecOn with
  | _ n ih =>
    by_cases h : n < 10
    · rw [decN_one h]; unfold valB; simp only [List.foldl_cons, List.foldl_nil, byte_nat h]; omega
    · rw [decN_step h, val_snoc, ih (n / 10) (by omega), byte_nat (by omega)]; omega
theorem decN_ne (n : Nat) : decN n ≠ [] := by
  by_cases h : n < 10
  · rw [decN_one h]; simp
  · rw [decN_step h]; simp
theorem dig_mem {l : List UInt8} (h : digB l = true) {b : UInt8} (hb : b ∈ l) : 48 ≤ b.toNat ∧ b.toNat ≤ 57 := by
  have := List.all_eq_true.1 h b hb
  simpa using this
theorem decN_neg (n : Nat) : negB (decN n) = false := by
  have h := decN_dig n
  cases hd : decN n with
  | nil => rfl
  | cons b l =>
    rw [hd] at h
    have := dig_mem h (b := b) (by simp)
    unfold negB
    simp; omega
theorem decN_short {n k : Nat} (h : n < 10 ^ (k + 1)) : (decN n).length ≤ k + 1 := by unfold decN; rw [bytes_len]; exact dgI_len k n h
theorem decI_neg {n : Int} (h : n < 0) : decI n = 45 :: decN n.natAbs := by unfold decI; rw [if_pos h]
theorem decI_pos {n : Int} (h : ¬ n < 0) : decI n = decN n.toNat := by unfold decI; rw [if_neg h]
theorem rd_dec {N k : Nat} {n : Int} (hk : n.natAbs < 10 ^ (k + 1)) (hN : k + 1 ≤ N) : rdB N (decI n) = some n := by
  by_cases h : n < 0
  · have e1 : negB (decI n) = true := by rw [decI_neg h]; rfl
    have e2 : magB (decI n) = decN n.natAbs := by unfold magB; rw [if_pos e1, decI_neg h]; rfl
    have h1 := decN_short hk
    unfold rdB sgB
    rw [e1, e2, if_neg (by
      simp only [not_or, Bool.not_eq_false]
      exact ⟨decN_ne _, by omega, decN_dig _⟩), if_pos rfl, decN_val]
    congr 1; omega
  · have e1 : negB (decI n) = false := by rw [decI_pos h]; exact decN_neg _
    have e2 : magB (decI n) = decN n.toNat := by unfold magB; rw [if_neg (by rw [e1]; simp), decI_pos h]
    have h1 := decN_short (n := n.toNat) (k := k) (by rw [show n.toNat = n.natAbs by omega]; exact hk)
    unfold rdB sgB
    rw [e1, e2, if_neg (by
      simp only [not_or, Bool.not_eq_false]
      exact ⟨decN_ne _, by omega, decN_dig _⟩), if_neg (by simp), decN_val]
    congr 1; omega
theorem dec_zero : decI 0 = [48] := by rw [decI_pos (by omega), show (0 : Int).toNat = 0 from rfl, decN_one (by omega)]; rfl
theorem l2_dec {s : List UInt8} (h : decI (l2B s) = s) : rdB 11 s = some (l2B s) := by
  by_cases hs : s = [48]
  · subst hs; rfl
  by_cases hc : (magB s).length < 12 ∧ digB (magB s) = true
  · have e : l2B s = sgB s (valB (magB s)) := by unfold l2B; rw [if_pos hc]
    by_cases hm : magB s = []
    · rw [e, hm] at h
      have e0 : sgB s (valB []) = 0 := by unfold sgB valB; split <;> rfl
      rw [e0, dec_zero] at h
      exact absurd h.symm hs
    · rw [e]
      unfold rdB
      rw [if_neg (by simp only [not_or, Bool.not_eq_false]; exact ⟨hm, by omega, hc.2⟩)]
  · have e : l2B s = 0 := by unfold l2B; rw [if_neg hc]
    rw [e, dec_zero] at h
    exact absurd h.symm hs
theorem decI_no {c : UInt8} (h : c.toNat < 45 ∨ c.toNat = 47 ∨ 57 < c.toNat) (n : Int) : c ∉ decI n := by
  have key : ∀ m, c ∉ decN m := fun m hm => by have := dig_mem (decN_dig m) hm; omega
  by_cases h0 : n < 0
  · rw [decI_neg h0]
    simp only [List.mem_cons, not_or]
    refine ⟨fun e => ?_, key _⟩
    subst e
    revert h; decide
  · rw [decI_pos h0]; exact key _
theorem decI_ne (n : Int) : decI n ≠ [] := by
  by_cases h0 : n < 0
  · rw [decI_neg h0]; simp
  · rw [decI_pos h0]; exact decN_ne _
theorem val_lt : ∀ (l : List UInt8) (n : Nat), digB l = true → l.foldl (fun n b => 10 * n + (b.toNat - 48)) n < (n + 1) * 10 ^ l.length
  | [], n, _ => by simp
  | b :: l, n, h => by
    have h1 := dig_mem h (b := b) (by simp)
    have h2 : digB l = true := by unfold digB at h ⊢; rw [List.all_cons, Bool.and_eq_true] at h; exact h.2
    rw [List.foldl_cons, List.length_cons]
    refine Nat.lt_of_lt_of_le (val_lt l _ h2) ?_
    rw [Nat.pow_succ, Nat.mul_comm (10 ^ l.length) 10, ← Nat.mul_assoc]
    exact Nat.mul_le_mul_right _ (by omega)
theorem val_rng {l : List UInt8} {k : Nat} (h : digB l = true) (hl : l.length ≤ k) : valB l < 10 ^ k := by
  have := val_lt l 0 h
  unfold valB
  rw [Nat.zero_add, Nat.one_mul] at this
  exact Nat.lt_of_lt_of_le this (Nat.pow_le_pow_right (by omega) hl)
theorem l2_rng (s : List UInt8) : -100000000000 < l2B s ∧ l2B s < 100000000000 := by
  unfold l2B
  split
  · rename_i h
    have := val_rng h.2 (show (magB s).length ≤ 11 by omega)
    have e : (10 : Nat) ^ 11 = 100000000000 := by decide
    unfold sgB
    split <;> omega
  · omega
/-! ### lists read in whole -/
def mapO {α β : Type} (f : α → Option β) : List α → Option (List β)
  | [] => some []
  | x :: l => match f x, mapO f l with
    | some y, some ys => some (y :: ys)
    | _, _ => none
theorem mapO_all {α β : Type} {f : α → Option β} {g : α → β} : ∀ {l : List α}, (∀ x ∈ l, f x = some (g x)) → mapO f l = some (l.map g)
  | [], _ => rfl
  | x :: l, h => by rw [mapO, h x (by simp), mapO_all (fun y hy => h y (by simp [hy]))]; rfl
theorem mapO_of {α β : Type} {f : α → Option β} {g : α → β} (hg : ∀ x y, f x = some y → g x = y) : ∀ {l : List α} {r : List β}, mapO f l = some r → l.map g = r
  | [], r, h => by injection h
  | x :: l, r, h => by
    rw [mapO] at h
    split at h
    · rename_i y ys h1 h2
      injection h with h
      rw [List.map_cons, hg x y h1, mapO_of hg h2, h]
    · cases h
theorem mapO_congr {α β : Type} {f g : α → Option β} : ∀ {l : List α}, (∀ x ∈ l, f x = g x) → mapO f l = mapO g l
  | [], _ => rfl
  | x :: l, h => by rw [mapO, mapO, h x (by simp), mapO_congr (fun y hy => h y (by simp [hy]))]
theorem mapO_len {α β : Type} {f : α → Option β} : ∀ {l : List α} {r : List β}, mapO f l = some r → r.length = l.length
  | [], r, h => by injection h with h; subst h; rfl
  | x :: l, r, h => by
    rw [mapO] at h
    split at h
    · rename_i y ys h1 h2
      injection h with h
      rw [← h, List.length_cons, List.length_cons, mapO_len h2]
    · cases h
def szS (s : List UInt8) : List Int := if s = [] then [] else (cutB 32 s).map l2B
def szI (s : List UInt8) : Option (List Int) := if s = [] then some [] else mapO (rdB 11) (cutB 32 s)
theorem szI_S {s : List UInt8} {r : List Int} (h : szI s = some r) : szS s = r := by
  unfold szI at h
  unfold szS
  split
  · rename_i e; rw [if_pos e] at h; injection h
  · rename_i e; rw [if_neg e] at h; exact mapO_of (fun x y hx => rd_l2 (by omega) hx) h
theorem szS_I {s : List UInt8} (h : intsT [32] (szS s) = s) : szI s = some (szS s) := by
  unfold szI
  split
  · rename_i e; unfold szS; rw [if_pos e]
  · rename_i e
    unfold szS at h ⊢
    rw [if_neg e] at h ⊢
    unfold intsT at h
    have h1 := cut_join (c := 32) (ws := ((cutB 32 s).map l2B).map decI) (fun w hw => by
      obtain ⟨x, _, rfl⟩ := List.mem_map.1 hw
      exact decI_no (.inl (by decide)) x) (by simp; exact cut_ne 32 s)
    rw [h, List.map_map] at h1
    have h2 : (cutB 32 s).map (decI ∘ l2B) = (cutB 32 s).map id := by rw [← h1]; simp
    rw [List.map_inj_left] at h2
    exact mapO_all fun x hx => l2_dec (h2 x hx)
/-! ### names -/
def nvB (b : UInt8) : Option Int := if b = 88 then some 0 else if b = 89 then some 1 else if b = 90 then some 2 else if b = 85 then some 3 else if b = 86 then some 4 else none
def lsB (p : List UInt8) : List Int := p.filterMap nvB
def pnB : List UInt8 → Option (List Int)
  | b :: q => if b = 40 ∧ q.getLast? = some 41 then mapO nvB q.dropLast else none
  | [] => none
theorem nm_cases {b : UInt8} {v : Int} (h : nvB b = some v) : v = 0 ∧ b = 88 ∨ v = 1 ∧ b = 89 ∨ v = 2 ∧ b = 90 ∨ v = 3 ∧ b = 85 ∨ v = 4 ∧ b = 86 := by
  unfold nvB at h
  repeat (first | (split at h; (rename_i e; injection h with h; subst h; subst e; simp)) | (cases h))
theorem nm_name {b : UInt8} {v : Int} (h : nvB b = some v) : nameB v = [b] := by
  rcases nm_cases h with ⟨rfl, rfl⟩ | ⟨rfl, rfl⟩ | ⟨rfl, rfl⟩ | ⟨rfl, rfl⟩ | ⟨rfl, rfl⟩ <;> rfl
theorem name_nm {v : Int} (h : ∃ b, nvB b = some v) : ∃ b, nameB v = [b] ∧ nvB b = some v ∧ b ≠ 59 := by
  obtain ⟨b, h⟩ := h
  refine ⟨b, nm_name h, h, ?_⟩
  rcases nm_cases h with ⟨_, rfl⟩ | ⟨_, rfl⟩ | ⟨_, rfl⟩ | ⟨_, rfl⟩ | ⟨_, rfl⟩ <;> decide
theorem ls_in {p : List UInt8} {v : Int} (h : v ∈ lsB p) : ∃ b, nvB b = some v := by
  obtain ⟨b, _, hb⟩ := List.mem_filterMap.1 h
  exact ⟨b, hb⟩
theorem names_back : ∀ {o : List Int}, (∀ v ∈ o, ∃ b, nvB b = some v) → mapO nvB (namesB o) = some o ∧ (59 : UInt8) ∉ namesB o
  | [], _ => ⟨rfl, by simp [namesB]⟩
  | v :: o, h => by
    obtain ⟨b, h1, h2, h3⟩ := name_nm (h v (by simp))
    obtain ⟨h4, h5⟩ := names_back (o := o) (fun u hu => h u (List.mem_cons_of_mem _ hu))
    have e : namesB (v :: o) = b :: namesB o := by unfold namesB; rw [List.flatMap_cons, h1]; rfl
    rw [e]
    refine ⟨by rw [mapO, h2, h4], ?_⟩
    simp only [List.mem_cons, not_or]
    exact ⟨fun e => h3 e.symm, h5⟩
theorem mapO_fm {α β : Type} {f : α → Option β} : ∀ {l : List α} {r : List β}, mapO f l = some r → l.filterMap f = r
  | [], r, h => by injection h
  | x :: l, r, h => by
    rw [mapO] at h
    split at h
    · rename_i y ys h1 h2
      injection h with h
      rw [List.filterMap_cons, h1, mapO_fm h2]; exact h
    · cases h
theorem last_snoc {q : List UInt8} {b : UInt8} (h : q.getLast? = some b) : q = q.dropLast ++ [b] := by
  obtain ⟨hn, e⟩ := List.getLast?_eq_some_iff.1 h |> fun ⟨ys, e⟩ => (⟨by rw [e]; simp, by rw [e]; simp⟩ : q ≠ [] ∧ q = q.dropLast ++ [b])
  exact e
theorem pn_ls {p : List UInt8} {o : List Int} (h : pnB p = some o) : lsB p = o := by
  cases p with
  | nil => cases h
  | cons b q =>
    rw [pnB] at h
    split at h
    · rename_i hc
      have e := mapO_fm h
      unfold lsB
      rw [hc.1, last_snoc hc.2, List.filterMap_cons, show nvB 40 = none from rfl, List.filterMap_append]
      simp only [List.filterMap_cons, List.filterMap_nil, show nvB 41 = none from rfl, List.append_nil]
      exact e
    · cases h
theorem ls_pn {p : List UInt8} (h : p = 40 :: (namesB (lsB p) ++ [41])) : pnB p = some (lsB p) := by
  have h1 := (names_back (o := lsB p) (fun v hv => ls_in hv)).1
  generalize hq : lsB p = o at h h1
  rw [h, pnB, if_pos ⟨rfl, by simp⟩, List.dropLast_concat]
  exact h1
end Go.Proofs.Ytkcfahfladikkaa
