/-
  SetRelation: the reference and the program give the same. On the printed functions; conditions: lengths.
-/
import Derived.Test.YtceghmdneadhbaaGreatSnVN1
-- pure
namespace Go.Proofs.YtceghmdneadhbaaGreat
open Go.RowKit
set_option linter.unusedVariables false
set_option linter.unusedSimpArgs false
/-! ### the order of strings -/
theorem bl_irr : ∀ s : List UInt8, Op.bytesLess s s = false
  | [] => rfl
  | x :: s => by simp [Op.bytesLess, bl_irr s]
theorem bl_trans : ∀ {a b c : List UInt8}, Op.bytesLess a b = true → Op.bytesLess b c = true → Op.bytesLess a c = true
  | [], [], _, h, _ => by simp [Op.bytesLess] at h
  | [], _ :: _, [], _, h => by simp [Op.bytesLess] at h
  | [], _ :: _, _ :: _, _, _ => by simp [Op.bytesLess]
  | _ :: _, [], _, h, _ => by simp [Op.bytesLess] at h
  | _ :: _, _ :: _, [], _, h => by simp [Op.bytesLess] at h
  | x :: a, y :: b, z :: c, h, k => by
    simp only [Op.bytesLess, Bool.or_eq_true, decide_eq_true_eq, Bool.and_eq_true, beq_iff_eq] at h k ⊢
    rcases h with h | ⟨rfl, h⟩
    · rcases k with k | ⟨rfl, k⟩
      · exact .inl (UInt8.lt_trans h k)
      · exact .inl h
    · rcases k with k | ⟨rfl, k⟩
      · exact .inl k
      · exact .inr ⟨rfl, bl_trans h k⟩
/-- names come in ascending order -/
theorem db_asc {d : List Tbl} (h : dbB d = true) : d.Pairwise fun a b => Op.bytesLess a.1 b.1 = true := by
  have hs : ∀ k (hk : k + 1 < d.length), Op.bytesLess (d[k]'(by omega)).1 d[k + 1].1 = true := by
    intro k hk
    simp only [dbB, Bool.and_eq_true, Bool.not_eq_true', badAny, List.any_eq_false, List.mem_range] at h
    have := h.2 (k + 1) hk
    rw [atB_lt hk] at this
    simp only [tblBad, Bool.not_eq_true, Bool.or_eq_false_iff, Bool.and_eq_false_iff] at this
    have h1 := this.1.1.1.2
    rcases h1 with h1 | h1
    · simp at h1
    · rw [show k + 1 - 1 = k by omega, atB_lt (by omega)] at h1
      simpa using h1
  rw [List.pairwise_iff_getElem]
  intro i j hi hj hij
  induction j with
  | zero => omega
  | succ j ih =>
    rcases Nat.lt_or_ge i j with h1 | h1
    · exact bl_trans (ih (by omega) h1) (hs j hj)
    · have : i = j := by omega
      subst this
      exact hs i hj
/-! ### what both store -/
def setSt (nm : List UInt8) (r : Int × List (List Int)) (s : List Tbl × Bool) (t : Tbl) : List Tbl × Bool :=
  let x := cond (!s.2 && !Op.bytesLess t.1 nm) (s.1 ++ [(nm, r)]) s.1
  (cond (!(t.1 == nm)) (x ++ [t]) x, s.2 || !Op.bytesLess t.1 nm)
def setS (d : List Tbl) (nm : List UInt8) (r : Int × List (List Int)) : List Tbl :=
  let s := d.foldl (setSt nm r) ([], false)
  cond (!s.2) (s.1 ++ [(nm, r)]) s.1
def setB (d : List Tbl) (nm : List UInt8) (r : Int × List (List Int)) : List Tbl × Bool := cond (!dbB d || !dbB (setS d nm r)) (d, false) (setS d nm r, true)
section
variable {d : List Tbl} {nm : List UInt8} {r : Int × List (List Int)}
theorem stp_len (s : List Tbl × Bool) (t : Tbl) : (setSt nm r s t).1.length ≤ s.1.length + 2 ∧ (s.2 = true → (setSt nm r s t).1.length ≤ s.1.length + 1 ∧ (setSt nm r s t).2 = true) ∧ (s.2 = false → (setSt nm r s t).2 = false → (setSt nm r s t).1.length ≤ s.1.length + 1) := by
  obtain ⟨x, p⟩ := s
  simp only [setSt]
  cases p <;> cases Op.bytesLess t.1 nm <;> cases (t.1 == nm) <;> simp
theorem fold_len : ∀ (l : List Tbl) (s : List Tbl × Bool), (l.foldl (setSt nm r) s).1.length ≤ s.1.length + l.length + (cond (l.foldl (setSt nm r) s).2 1 0) - (cond s.2 1 0) ∧ (s.2 = true → (l.foldl (setSt nm r) s).2 = true)
  | [], s => by simp only [List.foldl_nil, List.length_nil]; cases s.2 <;> simp
  | t :: l, s => by
    rw [List.foldl_cons, List.length_cons]
    obtain ⟨h1, h2⟩ := fold_len l (setSt nm r s t)
    obtain ⟨k1, k2, k3⟩ := stp_len (nm := nm) (r := r) s t
    cases hs : s.2 with
    | true =>
      obtain ⟨q1, q2⟩ := k2 hs
      rw [q2] at h1 h2
      rw [h2 rfl] at h1 ⊢
      simp only [cond_true] at h1 ⊢
      exact ⟨by omega, fun _ => (by first | rfl | trivial)⟩
    | false =>
      refine ⟨?_, fun h => by cases h⟩
      cases hp : (setSt nm r s t).2 with
      | true =>
        rw [hp] at h1 h2
        rw [h2 rfl] at h1 ⊢
        simp only [cond_true, cond_false] at h1 ⊢
        omega
      | false =>
        have := k3 hs hp
        rw [hp] at h1
        simp only [cond_false] at h1 ⊢
        omega
theorem setS_len (d : List Tbl) : (setS d nm r).length ≤ d.length + 1 := by
  obtain ⟨h1, _⟩ := fold_len (nm := nm) (r := r) d ([], false)
  simp only [setS]
  cases hp : (d.foldl (setSt nm r) ([], false)).2 with
  | true => rw [hp] at h1; simp only [cond_true, cond_false, List.length_nil, Bool.not_true] at h1 ⊢; omega
  | false => rw [hp] at h1; simp only [cond_true, cond_false, List.length_nil, Bool.not_false, List.length_append, List.length_singleton] at h1 ⊢; omega
theorem fold_mem : ∀ (l : List Tbl) (s : List Tbl × Bool), ∀ t ∈ (l.foldl (setSt nm r) s).1, t ∈ s.1 ∨ t ∈ l ∨ t = (nm, r)
  | [], s, t, h => .inl h
  | u :: l, s, t, h => by
    rcases fold_mem l _ t h with h | h | h
    · have : t ∈ s.1 ∨ t = u ∨ t = (nm, r) := by
        revert h
        simp only [setSt]
        cases s.2 <;> cases Op.bytesLess u.1 nm <;> cases (u.1 == nm) <;> simp <;> intro h <;> grind
      rcases this with h | h | h
      · exact .inl h
      · exact .inr (.inl (by rw [h]; exact List.mem_cons_self))
      · exact .inr (.inr h)
    · exact .inr (.inl (List.mem_cons_of_mem _ h))
    · exact .inr (.inr h)
theorem setS_mem : ∀ t ∈ setS d nm r, t ∈ d ∨ t = (nm, r) := by
  intro t h
  simp only [setS] at h
  have key : ∀ t ∈ (d.foldl (setSt nm r) ([], false)).1, t ∈ d ∨ t = (nm, r) := fun t ht => by
    rcases fold_mem d _ t ht with h | h | h
    · simp at h
    · exact .inl h
    · exact .inr h
  revert h
  cases (d.foldl (setSt nm r) ([], false)).2 with
  | true => exact key t
  | false =>
    intro h
    simp only [Bool.not_false, cond_true, List.mem_append, List.mem_singleton] at h
    rcases h with h | h
    · exact key t h
    · exact .inr h
theorem setS_sm (h : smDb d) (hd : d.length < lim) (hn : nm.length ≤ lim) (hr : smRows r.2) : smDb (setS d nm r) := by
  refine ⟨by have := setS_len (nm := nm) (r := r) d; omega, fun t ht => ?_⟩
  rcases setS_mem t ht with h1 | rfl
  · exact h.2 t h1
  · exact ⟨hn, hr⟩
/-- the database when all names in front are less -/
theorem fold_low : ∀ (l : List Tbl) (x : List Tbl), (∀ t ∈ l, Op.bytesLess t.1 nm = true) → l.foldl (setSt nm r) (x, false) = (x ++ l, false)
  | [], x, _ => by simp
  | t :: l, x, h => by
    have h1 := h t List.mem_cons_self
    have h2 : (t.1 == nm) = false := by
      cases e : (t.1 == nm) with
      | false => rfl
      | true => rw [eq_of_beq e, bl_irr] at h1; cases h1
    rw [List.foldl_cons]
    have : setSt nm r (x, false) t = (x ++ [t], false) := by simp [setSt, h1, h2]
    rw [this, fold_low l _ (fun u hu => h u (List.mem_cons_of_mem _ hu))]
    simp
theorem fold_high : ∀ (l : List Tbl) (x : List Tbl), (∀ t ∈ l, (t.1 == nm) = false) → l.foldl (setSt nm r) (x, true) = (x ++ l, true)
  | [], x, _ => by simp
  | t :: l, x, h => by
    rw [List.foldl_cons]
    have : setSt nm r (x, true) t = (x ++ [t], true) := by simp [setSt, h t List.mem_cons_self]
    rw [this, fold_high l _ (fun u hu => h u (List.mem_cons_of_mem _ hu))]
    simp
def lowN (d : List Tbl) (nm : List UInt8) : Nat := (d.takeWhile fun t => Op.bytesLess t.1 nm).length
theorem low_parts (d : List Tbl) (nm : List UInt8) : d.takeWhile (fun t => Op.bytesLess t.1 nm) = d.take (lowN d nm) ∧ d.dropWhile (fun t => Op.bytesLess t.1 nm) = d.drop (lowN d nm) := by
  have h := List.takeWhile_append_dropWhile (p := fun t : Tbl => Op.bytesLess t.1 nm) (l := d)
  unfold lowN
  generalize d.takeWhile (fun t => Op.bytesLess t.1 nm) = a at *
  generalize d.dropWhile (fun t => Op.bytesLess t.1 nm) = b at *
  subst h
  simp
theorem low_not {d : List Tbl} {nm : List UInt8} (h : lowN d nm < d.length) : Op.bytesLess d[lowN d nm].1 nm = false := by
  obtain ⟨e1, e2⟩ := low_parts d nm
  generalize hx : d[lowN d nm] = t
  have h3 : d.dropWhile (fun t => Op.bytesLess t.1 nm) = t :: d.drop (lowN d nm + 1) := by rw [e2, List.drop_eq_getElem_cons h, hx]
  cases hb : Op.bytesLess t.1 nm with
  | false => rfl
  | true =>
    have h4 := List.head_dropWhile_not (p := fun t : Tbl => Op.bytesLess t.1 nm) (l := d) (by rw [h3]; simp)
    simp only [h3, List.head_cons, hb] at h4
    cases h4
/-- what the program stores -/
def putI (d : List Tbl) (nm : List UInt8) (r : Int × List (List Int)) : List Tbl :=
  cond (atB d (lowN d nm) fun t => t.1 == nm) (d.set (lowN d nm) (nm, r)) (d.take (lowN d nm) ++ [(nm, r)] ++ d.drop (lowN d nm))
theorem put_same (h : dbB d = true) : setS d nm r = putI d nm r := by
  have hasc := db_asc h
  obtain ⟨e1, e2⟩ := low_parts d nm
  have hlow : ∀ t ∈ d.take (lowN d nm), Op.bytesLess t.1 nm = true := by
    rw [← e1]
    intro t ht
    exact (List.all_eq_true.1 (List.all_takeWhile (p := fun t : Tbl => Op.bytesLess t.1 nm) (l := d))) t ht
  have hd : d = d.take (lowN d nm) ++ d.drop (lowN d nm) := (List.take_append_drop _ _).symm
  have hfold : d.foldl (setSt nm r) ([], false) = (d.drop (lowN d nm)).foldl (setSt nm r) (d.take (lowN d nm), false) := by
    conv => lhs; rw [hd, List.foldl_append, fold_low _ _ hlow, List.nil_append]
  unfold setS putI
  rw [hfold]
  cases hD : d.drop (lowN d nm) with
  | nil =>
    have hlen : d.length ≤ lowN d nm := by simpa using hD
    have : atB d (lowN d nm) (fun t => t.1 == nm) = false := by unfold atB; rw [List.getElem?_eq_none hlen]
    rw [this]
    simp
  | cons t D =>
    have hlt : lowN d nm < d.length := by
      rcases Nat.lt_or_ge (lowN d nm) d.length with h | h
      · exact h
      · rw [List.drop_of_length_le h] at hD; cases hD
    have ht : d[lowN d nm] = t := by
      have := List.drop_eq_getElem_cons hlt
      rw [hD] at this
      injection this with h1 h2
      exact h1.symm
    have hdrop : d.drop (lowN d nm + 1) = D := by
      have := List.drop_eq_getElem_cons hlt
      rw [hD] at this
      injection this with h1 h2
      exact h2.symm
    have hnl : Op.bytesLess t.1 nm = false := by
      have h3 : d.dropWhile (fun t => Op.bytesLess t.1 nm) = t :: D := by rw [e2, hD]
      cases hb : Op.bytesLess t.1 nm with
      | false => rfl
      | true =>
        exfalso
        have h4 := List.head_dropWhile_not (p := fun t : Tbl => Op.bytesLess t.1 nm) (l := d) (by rw [h3]; simp)
        simp only [h3, List.head_cons, hb] at h4
        cases h4
    have hhigh : ∀ u ∈ D, (u.1 == nm) = false := by
      intro u hu
      rw [hd, hD] at hasc
      have h5 := (List.pairwise_cons.1 (List.pairwise_append.1 hasc).2.1).1 u hu
      cases e : (u.1 == nm) with
      | false => rfl
      | true => rw [eq_of_beq e, hnl] at h5; cases h5
    rw [atB_lt hlt, ht, List.foldl_cons]
    cases e : (t.1 == nm) with
    | true =>
      have : setSt nm r (d.take (lowN d nm), false) t = (d.take (lowN d nm) ++ [(nm, r)], true) := by simp [setSt, hnl, e]
      rw [this, fold_high _ _ hhigh]
      simp only [Bool.not_true, cond_false, cond_true]
      rw [List.set_eq_take_append_cons_drop, if_pos hlt, hdrop]
      simp
    | false =>
      have : setSt nm r (d.take (lowN d nm), false) t = (d.take (lowN d nm) ++ [(nm, r)] ++ [t], true) := by simp [setSt, hnl, e]
      rw [this, fold_high _ _ hhigh]
      simp
end
/-! ### numbered elements -/
def numsM {α : Type} (L : List (Nat × α ⊕ α)) : List Nat := L.filterMap fun q => match q with
  | .inl p => some p.1
  | .inr _ => none
theorem okJ_of {α : Type} [BEq α] [LawfulBEq α] {l : List α} : ∀ {L : List (Nat × α ⊕ α)} {seen : List Nat}, (∀ p, .inl p ∈ L → l[p.1]? = some p.2) → (numsM L).Nodup → (∀ n ∈ numsM L, n ∉ seen) → okJ l L seen = true
  | [], _, _, _, _ => rfl
  | .inr x :: L, seen, h1, h2, h3 => by
    rw [okJ]
    exact okJ_of (fun p hp => h1 p (List.mem_cons_of_mem _ hp)) h2 h3
  | .inl p :: L, seen, h1, h2, h3 => by
    have e : numsM (.inl p :: L) = p.1 :: numsM L := by simp [numsM]
    rw [e] at h2 h3
    obtain ⟨n1, n2⟩ := List.nodup_cons.1 h2
    rw [okJ, h1 p List.mem_cons_self]
    simp only [beq_self_eq_true, Bool.true_and, Bool.and_eq_true, Bool.not_eq_true']
    refine ⟨?_, okJ_of (fun q hq => h1 q (List.mem_cons_of_mem _ hq)) n2 (fun n hn hm => ?_)⟩
    · have := h3 p.1 List.mem_cons_self
      cases hc : seen.contains p.1 with
      | false => rfl
      | true => exact absurd (List.contains_iff_mem.1 hc) this
    · rcases List.mem_cons.1 hm with h | h
      · exact n1 (h ▸ hn)
      · exact h3 n (List.mem_cons_of_mem _ hn) h
theorem enumT_get {α : Type} : ∀ (l : List α) (k i : Nat), (enumP k l)[i]? = (l[i]?).map fun x => (k + i, x)
  | [], k, i => by simp [enumP]
  | x :: l, k, 0 => by simp [enumP]
  | x :: l, k, i + 1 => by
    rw [enumP, List.getElem?_cons_succ, List.getElem?_cons_succ, enumT_get l (k + 1) i]
    congr 1
    funext y
    congr 1
    omega
theorem enumT_mem {α : Type} {l : List α} {k : Nat} {p : Nat × α} (h : p ∈ enumP k l) : k ≤ p.1 ∧ l[p.1 - k]? = some p.2 := by
  obtain ⟨i, hi, he⟩ := List.getElem_of_mem h
  have h1 := List.getElem?_eq_getElem hi
  rw [enumT_get, he] at h1
  obtain ⟨x, hx, hp⟩ := Option.map_eq_some_iff.1 h1
  rw [← hp]
  refine ⟨by simp, ?_⟩
  simpa using hx
theorem enumT_nums {α : Type} : ∀ (l : List α) (k : Nat), numsM (inlM (enumP k l)) = List.range' k l.length
  | [], k => rfl
  | x :: l, k => by
    have := enumT_nums l (k + 1)
    simp only [inlM, numsM] at this ⊢
    rw [enumP, List.map_cons, List.filterMap_cons]
    simp only [this, List.length_cons, List.range'_succ]
theorem enumT_take {α : Type} : ∀ (l : List α) (k n : Nat), (enumP k l).take n = enumP k (l.take n)
  | [], k, n => by simp [enumP]
  | x :: l, k, 0 => by simp [enumP]
  | x :: l, k, n + 1 => by rw [enumP, List.take_succ_cons, List.take_succ_cons, enumP, enumT_take l (k + 1) n]
theorem enumT_drop {α : Type} : ∀ (l : List α) (k n : Nat), (enumP k l).drop n = enumP (k + n) (l.drop n)
  | [], k, n => by simp [enumP]
  | x :: l, k, 0 => by simp
  | x :: l, k, n + 1 => by rw [enumP, List.drop_succ_cons, List.drop_succ_cons, enumT_drop l (k + 1) n, show k + 1 + n = k + (n + 1) by omega]
theorem get_inl {α : Type} : ∀ (l : List α) (k : Nat), (inlM (enumP k l)).map getM = l
  | [], k => rfl
  | x :: l, k => by
    have := get_inl l (k + 1)
    simp only [inlM] at this ⊢
    rw [enumP, List.map_cons, List.map_cons, this]; rfl
theorem nums_app {α : Type} (a b : List (Nat × α ⊕ α)) : numsM (a ++ b) = numsM a ++ numsM b := by simp [numsM]
theorem nums_inr {α : Type} (a : List α) : numsM (inrM a) = [] := by
  induction a with
  | nil => rfl
  | cons x a ih => simp only [inrM, numsM] at ih ⊢; rw [List.map_cons, List.filterMap_cons]; exact ih
/-- an element is put in between -/
theorem okJ_put {α : Type} [BEq α] [LawfulBEq α] (l : List α) (n : Nat) (x : List α) : okJ l (inlM ((enumP 0 l).take n) ++ inrM x ++ inlM ((enumP 0 l).drop n)) [] = true ∧ (inlM ((enumP 0 l).take n) ++ inrM x ++ inlM ((enumP 0 l).drop n)).map getM = l.take n ++ x ++ l.drop n := by
  have hx : (inrM x).map getM = x := by
    induction x with
    | nil => rfl
    | cons y x ih => simp only [inrM] at ih ⊢; rw [List.map_cons, List.map_cons, ih]; rfl
  refine ⟨okJ_of (fun p hp => ?_) ?_ (by simp), ?_⟩
  · have : p ∈ enumP 0 l := by
      simp only [inlM, inrM, List.mem_append, List.mem_map, reduceCtorEq, and_false, exists_false, or_false, Sum.inl.injEq, exists_eq_right] at hp
      rcases hp with h | h
      · exact List.mem_of_mem_take h
      · exact List.mem_of_mem_drop h
    simpa using (enumT_mem this).2
  · rw [nums_app, nums_app, nums_inr, List.append_nil, enumT_take, enumT_drop, enumT_nums, enumT_nums, Nat.zero_add]
    have : List.range' 0 (l.take n).length ++ List.range' n (l.drop n).length = List.range' 0 l.length := by
      rcases Nat.lt_or_ge n l.length with h | h
      · rw [List.length_take, Nat.min_eq_left (by omega), List.length_drop]
        have := List.range'_append (s := 0) (m := n) (n := l.length - n) (step := 1)
        rw [show 0 + 1 * n = n by omega, show n + (l.length - n) = l.length by omega] at this
        exact this
      · rw [List.take_of_length_le h, List.drop_of_length_le h]; simp
    rw [this]
    exact List.nodup_range'
  · rw [List.map_append, List.map_append, hx, enumT_take, enumT_drop, get_inl, get_inl]
/-! ### the functions -/
theorem setB_sm {d : List Tbl} {nm : List UInt8} {r : Int × List (List Int)} (h : smDb d) (hd : d.length < lim) (hn : nm.length ≤ lim) (hr : smRows r.2) : smDb (setB d nm r).1 := by
  unfold setB
  cases (!dbB d || !dbB (setS d nm r)) with
  | true => exact h
  | false => exact setS_sm h hd hn hr
/-- what is stored is valid -/
theorem setB_ok {d : List Tbl} {nm : List UInt8} {r : Int × List (List Int)} (h : (setB d nm r).2 = true) : dbB d = true ∧ dbB (setB d nm r).1 = true ∧ (setB d nm r).1 = setS d nm r := by
  unfold setB at *
  cases h1 : dbB d with
  | false => simp [h1] at h
  | true =>
    cases h2 : dbB (setS d nm r) with
    | false => simp [h1, h2] at h
    | true => simp [h1, h2]
end Go.Proofs.YtceghmdneadhbaaGreat
