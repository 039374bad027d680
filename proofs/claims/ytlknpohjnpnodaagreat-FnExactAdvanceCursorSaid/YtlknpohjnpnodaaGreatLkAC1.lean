/-
  The leapfrog join of the program: its rows and steps are the reference's. On the printed functions; conditions: sizes.
-/
import Derived.Test.YtlknpohjnpnodaaGreatLiAC1
import Derived.Test.YtlknpohjnpnodaaGreatSoAC1
import Derived.Test.YtlknpohjnpnodaaGreatNrAC1
-- pure
namespace Go.Proofs.YtlknpohjnpnodaaGreat
open Go.RowKit
set_option linter.unusedVariables false
set_option linter.unusedSimpArgs false
theorem wrap_add (a b : Int) : IntKind.i64.wrap (IntKind.i64.wrap a + b) = IntKind.i64.wrap (a + b) := by
  unfold IntKind.wrap
  simp only [IntKind.signed, IntKind.bits, Bool.true_and, decide_eq_true_eq, ge_iff_le]
  split <;> split <;> (try split) <;> omega
def sumL {α : Type} (f : α → Int) : List α → Int
  | [] => 0
  | x :: l => f x + sumL f l
theorem sumL_app {α : Type} (f : α → Int) : ∀ a b : List α, sumL f (a ++ b) = sumL f a + sumL f b
  | [], b => by simp [sumL]
  | x :: a, b => by rw [List.cons_append, sumL, sumL, sumL_app f a b]; omega
theorem sumL_flat {α β : Type} (f : β → Int) (g : α → List β) : ∀ l : List α, sumL f (l.flatMap g) = sumL (fun x => sumL f (g x)) l
  | [] => rfl
  | x :: l => by rw [List.flatMap_cons, sumL_app, sumL, sumL_flat f g l]
theorem sumL_map {α β : Type} (f : β → Int) (g : α → β) : ∀ l : List α, sumL f (l.map g) = sumL (fun x => f (g x)) l
  | [] => rfl
  | x :: l => by rw [List.map_cons, sumL, sumL, sumL_map f g l]
theorem sumL_add {α : Type} (f g : α → Int) : ∀ l : List α, sumL (fun x => f x + g x) l = sumL f l + sumL g l
  | [] => rfl
  | x :: l => by rw [sumL, sumL, sumL, sumL_add f g l]; omega
theorem sumL_zero {α : Type} : ∀ l : List α, sumL (fun _ => (0 : Int)) l = 0
  | [] => rfl
  | x :: l => by rw [sumL, sumL_zero l]; rfl
theorem fold_wrap {α : Type} (f g : α → Int) (hfg : ∀ n v, IntKind.i64.wrap (n + f v) = IntKind.i64.wrap (n + g v)) : ∀ (l : List α) (a : Int), l.foldl (fun n v => IntKind.i64.wrap (n + f v)) (IntKind.i64.wrap a) = IntKind.i64.wrap (a + sumL g l)
  | [], a => by rw [List.foldl_nil, sumL]; congr 1; omega
  | x :: l, a => by
    rw [List.foldl_cons, hfg, wrap_add, fold_wrap f g hfg l, sumL]
    congr 1; omega
section
variable {T : List Tri} {q : Qry} {o : List Int}
theorem i_pf {a : Atm} {pre : List Int} (ha : a.2.length ≤ lim) (hp : pre.length ≤ o.length) (ho : o.length ≤ 5) : loopF (impl_nextLists_B3 o pre a) fz (([] : List Int), 0) = some (pfK a o pre pre.length) := by
  have hl : pre.length ≤ lim := by unfold lim; omega
  have := loop_to (body := impl_nextLists_B3 o pre a) (out := pfK a o pre pre.length) (fun k => (pfK a o pre k, (k : Int))) pre.length (fun k hk rec => by
    have hpl := pf_len a o pre k (by omega)
    have hd := dep_le a o k
    have hJ : ∀ y, impl_nextLists_J4 rec (k : Int) y = rec (y, ((k + 1 : Nat) : Int)) := fun y => by unfold impl_nextLists_J4; rw [wrap_s hk (lim_max hl)]
    unfold impl_nextLists_B3
    simp only
    rw [lt_dec hk, geti_at hk, geti_at (l := o) (by omega), pfK, atI_n (l := o) (by omega), atI_n hk]
    simp only [cond_true, obind]
    rw [i_cv ha]
    simp only [hJ]
    cases a.2.contains o[k] with
    | true => simp only [cond_true]; rw [chk_pos (by simp only [List.length_singleton]; unfold lim; omega)]
    | false => simp only [cond_false, List.append_nil]) (fun rec => by unfold impl_nextLists_B3; simp only; rw [nlt_dec]; rfl) fz (lt_fz hl)
  exact this
theorem i_next (h : TriesOk T q o) {pre : List Int} (hk : pre.length < o.length) : impl_nextLists q T o pre = some (kyL T q o pre) := by
  have ho := ord_all h.ov
  have hqn := qry_n h.qv
  have hq4 := (qry_in h.qv).2.2.1
  unfold impl_nextLists kyL
  have := loop_to (body := impl_nextLists_B1 q T o pre) (out := (ixK q (atI o (pre.length : Int)) q.2.1.length).map fun i => chB ((T[i]?).getD (0, [])) (pfK ((q.2.1[i]?).getD ([], [])) o pre pre.length)) (fun i => ((ixK q (atI o (pre.length : Int)) i).map fun i => chB ((T[i]?).getD (0, [])) (pfK ((q.2.1[i]?).getD ([], [])) o pre pre.length), (i : Int))) q.2.1.length (fun i hi rec => by
    have hxl := ixK_len q (atI o (pre.length : Int)) i
    have hal := (h.sm.2.1 _ (List.getElem_mem hi)).2
    have hTl : i < T.length := by rw [h.len]; exact hi
    have hT := tri_dep h hi (k := pre.length) (by omega)
    have hJ : ∀ y, impl_nextLists_J2 rec (i : Int) y = rec (y, ((i + 1 : Nat) : Int)) := fun y => by unfold impl_nextLists_J2; rw [wrap_s hi (lim_max h.sm.1)]
    unfold impl_nextLists_B1
    simp only
    rw [lt_dec hi, geti_at hi, geti_at hk, ixK_s, atB_lt hi, List.map_append, atI_n hk]
    simp only [cond_true, obind]
    rw [i_cv hal]
    simp only
    cases hc : q.2.1[i].2.contains o[pre.length] with
    | false =>
      simp only [Bool.not_false, cond_true, cond_false, List.map_nil, List.append_nil]
      exact hJ _
    | true =>
      simp only [Bool.not_true, cond_false, cond_true]
      rw [i_pf hal (by omega) (by omega)]
      simp only
      rw [geti_at hTl]
      simp only
      rw [i_ch (by rw [pf_len _ _ _ _ (by omega)]; exact hT)]
      simp only
      rw [chk_pos (by rw [List.length_map]; simp only [List.length_singleton]; unfold lim; rw [atI_n hk] at hxl; omega), hJ, List.map_cons, List.map_nil, List.getElem?_eq_getElem hTl, List.getElem?_eq_getElem hi]
      rfl) (fun rec => by unfold impl_nextLists_B1; simp only; rw [nlt_dec]; rfl) fz (lt_fz h.sm.1)
  have h2 : loopF (impl_nextLists_B1 q T o pre) fz (([] : List (List Int)), 0) = some ((ixK q (atI o (pre.length : Int)) q.2.1.length).map fun i => chB ((T[i]?).getD (0, [])) (pfK ((q.2.1[i]?).getD ([], [])) o pre pre.length)) := this
  rw [h2]; rfl
/-- the prefixes of a length, and the steps up to them -/
def lvK (T : List Tri) (q : Qry) (o : List Int) : Nat → List (List Int)
  | 0 => [[]]
  | k + 1 => (lvK T q o k).flatMap fun p => (ky T q o p).1.map fun v => p ++ [v]
def stK (T : List Tri) (q : Qry) (o : List Int) : Nat → Int
  | 0 => 0
  | k + 1 => (lvK T q o k).foldl (fun n p => IntKind.i64.wrap (n + (ky T q o p).2)) (stK T q o k)
theorem lv_len : ∀ (k : Nat) (p : List Int), p ∈ lvK T q o k → p.length = k
  | 0, p, h => by rw [lvK, List.mem_singleton] at h; subst h; rfl
  | k + 1, p, h => by
    rw [lvK] at h
    obtain ⟨p', hp', h2⟩ := List.mem_flatMap.1 h
    obtain ⟨v, _, rfl⟩ := List.mem_map.1 h2
    rw [List.length_append, lv_len k p' hp', List.length_singleton]
theorem flat_few {α β : Type} {f : α → List β} {B : Nat} : ∀ (l : List α), (∀ x ∈ l, (f x).length ≤ B) → (l.flatMap f).length ≤ l.length * B
  | [], _ => by simp
  | x :: l, h => by
    have h1 := h x (by simp)
    have h2 := flat_few l fun y hy => h y (by simp [hy])
    rw [List.flatMap_cons, List.length_append, List.length_cons, Nat.add_mul, Nat.one_mul]
    omega
theorem lv_few (h : TriesOk T q o) (h16 : ∀ t ∈ T, t.2.length ≤ 16) : ∀ k, k ≤ o.length → (lvK T q o k).length ≤ 16 ^ k
  | 0, _ => by rw [lvK]; simp
  | k + 1, hk => by
    have h1 := lv_few h h16 k (by omega)
    rw [lvK, Nat.pow_succ]
    refine Nat.le_trans (flat_few _ fun p hp => ?_) (Nat.mul_le_mul_right 16 h1)
    rw [List.length_map]
    exact (ky_few h h16 (by rw [lv_len k p hp]; omega)).1
theorem pow16 {k : Nat} (h : k ≤ 5) : 16 ^ k ≤ 1048576 := Nat.pow_le_pow_right (show 0 < 16 by decide) h
theorem i_reach (h : TriesOk T q o) (h16 : ∀ t ∈ T, t.2.length ≤ 16) {n : Nat} (hn : n ≤ o.length) : impl_reach_LeapfrogIntersect q T o (n : Int) = some (lvK T q o n, stK T q o n, decide (((lvK T q o n).length : Int) ≤ 4000)) := by
  have ho := ord_all h.ov
  have hqn := qry_n h.qv
  unfold impl_reach_LeapfrogIntersect
  have := loop_to (body := impl_reach_LeapfrogIntersect_B1 q T o (n : Int)) (out := (lvK T q o n, stK T q o n)) (fun k => (lvK T q o k, stK T q o k, (k : Int))) n (fun k hk rec => by
    have hlv := lv_few h h16 k (by omega)
    have h16k := pow16 (show k ≤ 5 by omega)
    have hin := loop_to (body := impl_reach_LeapfrogIntersect_B2 q T o (lvK T q o k)) (out := (stK T q o (k + 1), lvK T q o (k + 1))) (fun j => (((lvK T q o k).take j).foldl (fun n p => IntKind.i64.wrap (n + (ky T q o p).2)) (stK T q o k), ((lvK T q o k).take j).flatMap (fun p => (ky T q o p).1.map fun v => p ++ [v]), (j : Int))) (lvK T q o k).length (fun j hj rec => by
      have hpl : (lvK T q o k)[j].length = k := lv_len k _ (List.getElem_mem hj)
      obtain ⟨k1, k2, k3⟩ := ky_few h h16 (pre := (lvK T q o k)[j]) (by omega)
      have hfew : (((lvK T q o k).take j).flatMap (fun p => (ky T q o p).1.map fun v => p ++ [v])).length ≤ 16777216 := by
        have := flat_few (f := fun p => (ky T q o p).1.map fun v => p ++ [v]) (B := 16) ((lvK T q o k).take j) (fun p hp => by
          rw [List.length_map]
          exact (ky_few h h16 (by rw [lv_len k p (List.mem_of_mem_take hp)]; omega)).1)
        rw [List.length_take] at this
        omega
      generalize hacc : ((lvK T q o k).take j).flatMap (fun p => (ky T q o p).1.map fun v => p ++ [v]) = acc at hfew
      have hb3 := loop_to (body := impl_reach_LeapfrogIntersect_B3 (lvK T q o k)[j] (ky T q o (lvK T q o k)[j])) (out := acc ++ (ky T q o (lvK T q o k)[j]).1.map fun v => (lvK T q o k)[j] ++ [v]) (fun i => (acc ++ ((ky T q o (lvK T q o k)[j]).1.take i).map (fun v => (lvK T q o k)[j] ++ [v]), (i : Int))) (ky T q o (lvK T q o k)[j]).1.length (fun i hi rec => by
        unfold impl_reach_LeapfrogIntersect_B3
        simp only
        rw [lt_dec hi, geti_at hi]
        simp only [cond_true, obind]
        rw [i_copyI (by unfold lim; omega)]
        simp only
        rw [chk_pos (by simp only [List.length_singleton]; unfold lim; omega), chk_pos (by simp only [List.length_append, List.length_map, List.length_take, List.length_singleton]; unfold lim; omega), wrap_s hi (by unfold maxLen; omega), List.take_succ_eq_append_getElem hi, List.map_append, List.append_assoc]
        rfl) (fun rec => by unfold impl_reach_LeapfrogIntersect_B3; simp only; rw [nlt_dec, List.take_length]; rfl) fz (by unfold fz; omega)
      unfold impl_reach_LeapfrogIntersect_B2
      simp only
      rw [lt_dec hj, geti_at hj]
      simp only [cond_true, obind]
      rw [i_next h (by omega)]
      simp only
      rw [i_lf (ky_sm h (by omega)).1]
      simp only
      rw [show lfB (kyL T q o (lvK T q o k)[j]) = ky T q o (lvK T q o k)[j] from rfl]
      rw [List.take_zero, List.map_nil, List.append_nil] at hb3
      have hb4 : loopF (impl_reach_LeapfrogIntersect_B3 (lvK T q o k)[j] (ky T q o (lvK T q o k)[j])) fz (acc, 0) = some (acc ++ (ky T q o (lvK T q o k)[j]).1.map fun v => (lvK T q o k)[j] ++ [v]) := hb3
      rw [hb4]
      simp only
      rw [List.take_succ_eq_append_getElem hj, List.foldl_append, List.flatMap_append, hacc, List.flatMap_cons, List.flatMap_nil, List.append_nil, wrap_s hj (by unfold maxLen; omega)]
      rfl) (fun rec => by unfold impl_reach_LeapfrogIntersect_B2; simp only; rw [nlt_dec, List.take_length]; rfl) fz (by unfold fz; omega)
    have hin2 : loopF (impl_reach_LeapfrogIntersect_B2 q T o (lvK T q o k)) fz (stK T q o k, ([] : List (List Int)), 0) = some (stK T q o (k + 1), lvK T q o (k + 1)) := hin
    unfold impl_reach_LeapfrogIntersect_B1
    simp only
    rw [lt_dec hk, hin2, wrap_s hk (by unfold maxLen; omega)]
    rfl) (fun rec => by unfold impl_reach_LeapfrogIntersect_B1; simp only; rw [nlt_dec]; rfl) fz (by unfold fz; omega)
  have h2 : loopF (impl_reach_LeapfrogIntersect_B1 q T o (n : Int)) fz (([[]] : List (List Int)), 0, 0) = some (lvK T q o n, stK T q o n) := this
  rw [h2]
  rfl
/-! ### level by level, or row by row -/
theorem flat_one {α : Type} : ∀ l : List α, (l.flatMap fun p => [p]) = l
  | [] => rfl
  | x :: l => by rw [List.flatMap_cons, flat_one l]; rfl
theorem lv_wk : ∀ (k r : Nat), (lvK T q o k).flatMap (fun p => (wk T q o r p).1) = (wk T q o (k + r) []).1
  | 0, r => by rw [lvK, List.flatMap_cons, List.flatMap_nil, List.append_nil, Nat.zero_add]
  | k + 1, r => by
    rw [lvK, List.flatMap_assoc, show k + 1 + r = k + (r + 1) by omega, ← lv_wk k (r + 1)]
    congr 1
    funext p
    rw [List.flatMap_map]
    rfl
def tk (T : List Tri) (q : Qry) (o : List Int) : Nat → List Int → Int
  | 0, _ => 0
  | r + 1, pre => (ky T q o pre).2 + sumL (fun v => tk T q o r (pre ++ [v])) (ky T q o pre).1
theorem ky_in (h : TriesOk T q o) {pre : List Int} (hk : pre.length < o.length) : IntKind.i64.wrap (ky T q o pre).2 = (ky T q o pre).2 := by
  have := lf_val2 (ky_sm h hk).1
  have h1 := this.2.2.2
  exact wrap_in (by unfold ky; omega)
theorem wk_tk (h : TriesOk T q o) : ∀ (r : Nat) (pre : List Int), pre.length + r = o.length → (wk T q o r pre).2 = IntKind.i64.wrap (tk T q o r pre)
  | 0, pre, hr => rfl
  | r + 1, pre, hr => by
    have hlen : ∀ v : Int, (pre ++ [v]).length + r = o.length := fun v => by rw [List.length_append, List.length_singleton]; omega
    have hw := fun v => wk_tk h r (pre ++ [v]) (hlen v)
    rw [wk, tk]
    simp only
    rw [← fold_wrap (fun v => (wk T q o r (pre ++ [v])).2) (fun v => tk T q o r (pre ++ [v])) (fun n v => by rw [hw v, Int.add_comm, wrap_add, Int.add_comm]), ky_in h (by omega)]
def sK (T : List Tri) (q : Qry) (o : List Int) : Nat → Int
  | 0 => 0
  | k + 1 => sK T q o k + sumL (fun p => (ky T q o p).2) (lvK T q o k)
theorem st_s : ∀ k, stK T q o k = IntKind.i64.wrap (sK T q o k)
  | 0 => rfl
  | k + 1 => by
    rw [stK, st_s k, sK, fold_wrap _ (fun p => (ky T q o p).2) (fun n v => rfl)]
theorem s_tk : ∀ (k r : Nat), sK T q o k + sumL (fun p => tk T q o r p) (lvK T q o k) = tk T q o (k + r) []
  | 0, r => by rw [sK, lvK, sumL, sumL, Nat.zero_add]; omega
  | k + 1, r => by
    rw [show k + 1 + r = k + (r + 1) by omega, ← s_tk k (r + 1), sK, lvK, sumL_flat]
    have e : (fun p => tk T q o (r + 1) p) = fun p => (ky T q o p).2 + sumL (fun v => tk T q o r (p ++ [v])) (ky T q o p).1 := by funext p; rw [tk]
    have e2 : (fun p => sumL (fun p => tk T q o r p) ((ky T q o p).1.map fun v => p ++ [v])) = fun p => sumL (fun v => tk T q o r (p ++ [v])) (ky T q o p).1 := by funext p; rw [sumL_map]
    rw [e, sumL_add, e2]
    omega
theorem lv_end : lvK T q o o.length = (wk T q o o.length []).1 := by
  have := lv_wk (T := T) (q := q) (o := o) o.length 0
  rw [Nat.add_zero] at this
  rw [← this]
  exact (flat_one _).symm
theorem st_end (h : TriesOk T q o) : stK T q o o.length = (wk T q o o.length []).2 := by
  have := s_tk (T := T) (q := q) (o := o) o.length 0
  rw [Nat.add_zero] at this
  rw [st_s, wk_tk h o.length [] (by simp), ← this]
  have e : (fun p => tk T q o 0 p) = fun _ => (0 : Int) := by funext p; rw [tk]
  rw [e, sumL_zero, Int.add_zero]
/-! ### the rows stand in order -/
theorem cmp_pre : ∀ (p a b : List Int), cmpB (p ++ a) (p ++ b) = cmpB a b
  | [], a, b => rfl
  | x :: p, a, b => by rw [List.cons_append, List.cons_append, cmpB, if_neg (by omega), if_neg (by omega)]; exact cmp_pre p a b
theorem wk_srt (h : TriesOk T q o) (h16 : ∀ t ∈ T, t.2.length ≤ 16) : ∀ (r : Nat) (pre : List Int), pre.length + r = o.length → Srt (wk T q o r pre).1
  | 0, pre, hr => by rw [wk]; exact List.pairwise_singleton _ _
  | r + 1, pre, hr => by
    have hlen : ∀ v : Int, (pre ++ [v]).length + r = o.length := fun v => by rw [List.length_append, List.length_singleton]; omega
    have hs := fun v => wk_srt h h16 r (pre ++ [v]) (hlen v)
    obtain ⟨k1, k2, k3⟩ := ky_few h h16 (pre := pre) (by omega)
    rw [wk]
    unfold Srt
    simp only
    rw [List.pairwise_flatMap]
    refine ⟨fun v _ => hs v, k2.imp fun {v v'} hv x hx y hy => ?_⟩
    have hx2 := ((wk_few h h16 r (pre ++ [v]) (hlen v)).2 x hx).2.1
    have hy2 := ((wk_few h h16 r (pre ++ [v']) (hlen v')).2 y hy).2.1
    have ex := List.take_append_drop (pre ++ [v]).length x
    have ey := List.take_append_drop (pre ++ [v']).length y
    rw [hx2] at ex
    rw [hy2] at ey
    rw [← ex, ← ey, List.append_assoc, List.append_assoc, cmp_pre]
    show cmpB (v :: _) (v' :: _) < 0
    rw [cmpB, if_pos hv]
    omega
theorem avv_all {x : List Int} (h : ∀ e ∈ x, 0 ≤ e ∧ e ≤ 99) : avvB x = true := by
  unfold avvB
  rw [bad_none fun i hi => by
    have := h _ (List.getElem_mem hi)
    first
      | (rw [atB_lt hi]; unfold btw; simp; omega)
      | (unfold btw; simp; omega)]
  rfl
theorem nr_wk (h : TriesOk T q o) (h16 : ∀ t ∈ T, t.2.length ≤ 16) : nrB (o.length : Int) (wk T q o o.length []).1 = cond (decide (((wk T q o o.length []).1.length : Int) ≤ 4000)) (((o.length : Int), (wk T q o o.length []).1), true) ((0, []), false) := by
  have ho := ord_all h.ov
  have hqn := qry_n h.qv
  obtain ⟨w1, w2⟩ := wk_few h h16 o.length [] (by simp)
  have hs := wk_srt h h16 o.length [] (by simp)
  have hrow : ∀ x ∈ (wk T q o o.length []).1, x.length = o.length ∧ avvB x = true := fun x hx => ⟨(w2 x hx).1, avv_all ((w2 x hx).2.2 fun e he => by cases he)⟩
  have hsort : sortB (wk T q o o.length []).1 = (wk T q o o.length []).1 := (sort_of hs fun z => Iff.rfl).symm
  unfold nrB
  rw [hsort, bad_none fun i hi => by
    have := hrow _ (List.getElem_mem hi)
    first
      | (unfold nrBad; rw [this.1, this.2]; simp)
      | (rw [atB_lt hi]; unfold nrBad; rw [this.1, this.2]; simp)]
  rw [cond_false]
  have hrel : relB ((o.length : Int), (wk T q o o.length []).1) = decide (((wk T q o o.length []).1.length : Int) ≤ 4000) := by
    rw [Bool.eq_iff_iff, rel_iff, decide_eq_true_eq]
    constructor
    · rintro ⟨_, h2, _⟩
      simp only at h2
      omega
    · intro h2
      exact ⟨⟨by simp only; omega, by simp only; omega⟩, by simp only; omega, fun x hx => ⟨by rw [(hrow x hx).1], (hrow x hx).2⟩, hs⟩
  rw [hrel]
  cases decide (((wk T q o o.length []).1.length : Int) ≤ 4000) <;> rfl
end
theorem i_em {T : List Tri} (hl : T.length ≤ lim) : impl_someEmpty T = some (emB T) := by
  unfold impl_someEmpty emB
  have := bad_loop (B := impl_someEmpty_B1 T) (n := T.length) (fun k => atB T k fun t => (t.2.length : Int) == 0) true hl (fun k hk rec => by
    unfold impl_someEmpty_B1
    rw [lt_dec hk, geti_at hk, wrap_s hk (lim_max hl), atB_lt hk]
    rfl) (fun rec => by unfold impl_someEmpty_B1; rw [nlt_dec]; rfl)
  rw [this]
  have e : (List.range T.length).any (fun k => atB T k fun t => (t.2.length : Int) == 0) = badAny T fun _ t => (t.2.length : Int) == 0 := rfl
  rw [e]
  cases badAny T fun _ t => (t.2.length : Int) == 0 <;> rfl
section
variable {d : List Tbl} {q : Qry} {o : List Int}
theorem i_lj (h : smDb d) (hq : smQ q) (ho : o.length ≤ lim) : impl_LeapfrogJoin d q o = some (ljB d q o) := by
  unfold impl_LeapfrogJoin ljB
  rw [i_tries h hq ho]
  unfold triesB
  cases hf : qforB d q with
  | false => rfl
  | true =>
    cases hor : ordB q o with
    | false => rfl
    | true =>
      simp only [Bool.and_self, cond_true, obind, Bool.not_true, cond_false]
      have hT := tries_ok (d := d) hq hf hor
      have ho2 := ord_all hor
      rw [show q.2.1.map (trieB d o) = trs d q o from rfl] at hT ⊢
      rw [i_em (by rw [hT.len]; exact hq.1)]
      simp only
      rw [← ho2.1]
      cases emB (trs d q o) with
      | true => rfl
      | false =>
        simp only [cond_false]
        rw [i_reach hT (trs_16 hf hor) (Nat.le_refl _)]
        simp only
        rw [lv_end, st_end hT, nr_wk hT (trs_16 hf hor)]
        cases decide (((wk (trs d q o) q o o.length []).1.length : Int) ≤ 4000) <;> rfl
end
end Go.Proofs.YtlknpohjnpnodaaGreat
