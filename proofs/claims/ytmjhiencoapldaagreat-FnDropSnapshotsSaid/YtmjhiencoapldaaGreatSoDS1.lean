/-
  Sorted rows, each once: the reference and the program agree. On the printed functions; conditions: lengths.
-/
import Derived.Test.YtmjhiencoapldaaGreatFdDS1
-- pure
namespace Go.Proofs.YtmjhiencoapldaaGreat
open Go.RowKit
set_option linter.unusedSimpArgs false
set_option linter.unusedVariables false
abbrev Row := List Int
/-! ### the order of rows -/
theorem cmp_self : ∀ a : Row, cmpB a a = 0
  | [] => rfl
  | x :: a => by rw [cmpB, if_neg (by omega), if_neg (by omega)]; exact cmp_self a
theorem cmp_zero : ∀ {a b : Row}, cmpB a b = 0 → a = b
  | [], [], _ => rfl
  | [], _ :: _, h => by simp [cmpB] at h
  | _ :: _, [], h => by simp [cmpB] at h
  | x :: a, y :: b, h => by
    rw [cmpB] at h
    split at h
    · simp at h
    · split at h
      · simp at h
      · have : x = y := by omega
        rw [this, cmp_zero h]
theorem cmp_neg : ∀ a b : Row, cmpB b a = - cmpB a b
  | [], [] => rfl
  | [], _ :: _ => rfl
  | _ :: _, [] => rfl
  | x :: a, y :: b => by
    rw [cmpB, cmpB]
    by_cases h1 : x < y
    · rw [if_neg (by omega), if_pos h1, if_pos h1]; rfl
    · rw [if_neg h1]
      by_cases h2 : y < x
      · rw [if_pos h2, if_pos h2, if_neg h1]
      · rw [if_neg h2, if_neg h2, if_neg h1]; exact cmp_neg a b
theorem cmp_trans : ∀ {a b c : Row}, cmpB a b < 0 → cmpB b c < 0 → cmpB a c < 0
  | [], [], _, h, _ => by simp [cmpB] at h
  | [], _ :: _, [], _, h => by simp [cmpB] at h
  | [], _ :: _, _ :: _, _, _ => by simp [cmpB]
  | _ :: _, [], _, h, _ => by simp [cmpB] at h
  | _ :: _, _ :: _, [], _, h => by simp [cmpB] at h
  | x :: a, y :: b, z :: c, h1, h2 => by
    rw [cmpB] at h1 h2 ⊢
    by_cases e1 : x < y
    · by_cases e2 : y < z
      · rw [if_pos (by omega)]; simp
      · rw [if_neg e2] at h2
        by_cases e3 : z < y
        · rw [if_pos e3] at h2; simp at h2
        · rw [if_pos (by omega)]; simp
    · rw [if_neg e1] at h1
      by_cases e3 : y < x
      · rw [if_pos e3] at h1; simp at h1
      · rw [if_neg e3] at h1
        by_cases e2 : y < z
        · rw [if_pos (by omega)]; simp
        · rw [if_neg e2] at h2
          by_cases e4 : z < y
          · rw [if_pos e4] at h2; simp at h2
          · rw [if_neg e4] at h2
            rw [if_neg (by omega), if_neg (by omega)]
            exact cmp_trans h1 h2
/-- ascending, each once -/
def Srt (l : List Row) : Prop := l.Pairwise fun a b => cmpB a b < 0
theorem srt_eq : ∀ {a b : List Row}, Srt a → Srt b → (∀ x, x ∈ a ↔ x ∈ b) → a = b
  | [], [], _, _, _ => rfl
  | [], y :: b, _, _, h => by have := (h y).2 (by simp); simp at this
  | x :: a, [], _, _, h => by have := (h x).1 (by simp); simp at this
  | x :: a, y :: b, ha, hb, h => by
    obtain ⟨a1, a2⟩ := List.pairwise_cons.1 ha
    obtain ⟨b1, b2⟩ := List.pairwise_cons.1 hb
    have hxy : x = y := by
      rcases List.mem_cons.1 ((h x).1 (by simp)) with e | hx
      · exact e
      · rcases List.mem_cons.1 ((h y).2 (by simp)) with e | hy
        · exact e.symm
        · have h1 := b1 x hx
          have h2 := a1 y hy
          have := cmp_neg x y
          omega
    subst hxy
    have hne : ∀ z ∈ a, z ≠ x := fun z hz e => by subst e; have := a1 z hz; rw [cmp_self] at this; omega
    have hne' : ∀ z ∈ b, z ≠ x := fun z hz e => by subst e; have := b1 z hz; rw [cmp_self] at this; omega
    rw [srt_eq a2 b2 (fun z => ⟨fun hz => (List.mem_cons.1 ((h z).1 (by simp [hz]))).resolve_left (hne z hz), fun hz => (List.mem_cons.1 ((h z).2 (by simp [hz]))).resolve_left (hne' z hz)⟩)]
def insR (x : Row) : List Row → List Row
  | [] => [x]
  | y :: l => if cmpB x y < 0 then x :: y :: l else if cmpB x y = 0 then y :: l else y :: insR x l
def sortB (l : List Row) : List Row := l.foldr insR []
theorem ins_mem (x : Row) : ∀ (l : List Row) (z : Row), z ∈ insR x l ↔ z = x ∨ z ∈ l
  | [], z => by simp [insR]
  | y :: l, z => by
    rw [insR]
    split
    · simp
    · split
      · rename_i _ h; rw [cmp_zero h]; simp
      · rw [List.mem_cons, ins_mem x l z, List.mem_cons]
        constructor
        · rintro (h | h | h) <;> simp [h]
        · rintro (h | h | h) <;> simp [h]
theorem ins_srt (x : Row) : ∀ (l : List Row), Srt l → Srt (insR x l)
  | [], _ => List.pairwise_singleton _ _
  | y :: l, h => by
    obtain ⟨h1, h2⟩ := List.pairwise_cons.1 h
    rw [insR]
    split
    · rename_i hc
      refine List.pairwise_cons.2 ⟨fun z hz => ?_, h⟩
      rcases List.mem_cons.1 hz with rfl | hz
      · exact hc
      · exact cmp_trans hc (h1 z hz)
    · split
      · exact h
      · rename_i q1 q2
        refine List.pairwise_cons.2 ⟨fun z hz => ?_, ins_srt x l h2⟩
        rcases (ins_mem x l z).1 hz with rfl | hz
        · have := cmp_neg z y; omega
        · exact h1 z hz
theorem sort_srt : ∀ l : List Row, Srt (sortB l)
  | [] => List.Pairwise.nil
  | x :: l => ins_srt x _ (sort_srt l)
theorem sort_mem : ∀ (l : List Row) (z : Row), z ∈ sortB l ↔ z ∈ l
  | [], z => Iff.rfl
  | x :: l, z => by rw [show sortB (x :: l) = insR x (sortB l) from rfl, ins_mem, sort_mem l z, List.mem_cons]
theorem sort_of {l r : List Row} (h1 : Srt r) (h2 : ∀ z, z ∈ r ↔ z ∈ l) : r = sortB l := srt_eq h1 (sort_srt l) (fun z => by rw [h2, sort_mem])
theorem ins_len (x : Row) : ∀ l : List Row, (insR x l).length ≤ l.length + 1
  | [] => by simp [insR]
  | y :: l => by
    rw [insR]
    split
    · simp
    · split
      · simp
      · have := ins_len x l; simp; omega
theorem sort_len : ∀ l : List Row, (sortB l).length ≤ l.length
  | [] => by simp [sortB]
  | x :: l => by
    have h1 := sort_len l
    have h2 := ins_len x (sortB l)
    rw [show sortB (x :: l) = insR x (sortB l) from rfl, List.length_cons]; omega
/-! ### loops with a measure -/
theorem loop_wh {S O : Type} {B : (S → Option O) → S → Option O} (I : S → Prop) (μ : S → Nat) (R : O → Prop) (h : ∀ s, I s → (∃ o, R o ∧ ∀ rec, B rec s = some o) ∨ ∃ s', I s' ∧ μ s' < μ s ∧ ∀ rec, B rec s = rec s') : ∀ (m : Nat) (s : S), I s → μ s < m → ∃ o, loopF B m s = some o ∧ R o
  | 0, _, _, hm => by omega
  | m + 1, s, hs, hm => by
    rw [loopF_succ]
    rcases h s hs with ⟨o, ho, he⟩ | ⟨s', h1, h2, he⟩
    · exact ⟨o, he _, ho⟩
    · rw [he]; exact loop_wh I μ R h m s' h1 (by omega)
theorem subl_tail {α : Type} (x : α) (l : List α) : subl (x :: l) 1 ((x :: l).length : Int) = l := by
  unfold subl
  rw [Int.toNat_natCast, List.take_length]; rfl
theorem chk_tail {α β : Type} (x : α) (l : List α) (y : Option β) : chk ((0 : Int) ≤ 1 ∧ 1 ≤ (List.length (x :: l) : Int) ∧ (List.length (x :: l) : Int) ≤ (List.length (x :: l) : Int)) y = y := chk_pos (by simp only [List.length_cons]; omega)
theorem geti_0 {α : Type} (x : α) (l : List α) : geti (x :: l) 0 = some x := rfl
theorem pos_cons {α : Type} (x : α) (l : List α) : decide (0 < ((x :: l).length : Int)) = true := decide_eq_true (by simp only [List.length_cons]; omega)
theorem len_cons0 {α : Type} (x : α) (l : List α) : (((x :: l).length : Int) == 0) = false := by simp only [List.length_cons, beq_eq_false_iff_ne]; omega
/-! ### the program's sort -/
section
variable {A0 B0 : List Row}
theorem srt_snoc {l : List Row} {x : Row} (h : Srt l) (hx : ∀ y ∈ l, cmpB y x < 0) : Srt (l ++ [x]) := by
  unfold Srt
  rw [List.pairwise_append]
  exact ⟨h, List.pairwise_singleton _ _, fun a ha b hb => by rw [List.mem_singleton] at hb; subst hb; exact hx a ha⟩
end
theorem half_in {n : Nat} (hn : n ≤ lim) : IntKind.i64.wrap (Int.tdiv (n : Int) 2) = ((n / 2 : Nat) : Int) := by
  rw [show Int.tdiv (n : Int) 2 = ((n / 2 : Nat) : Int) by rw [Int.tdiv_eq_ediv_of_nonneg (by omega)]; omega]
  exact wrap_in (by unfold lim at hn; omega)
/-! ### the reference's sort -/
structure SInv (l0 : List Row) (a b out : List Row) : Prop where
  so : Srt out
  sa : Srt a
  sb : Srt b
  le : ∀ x ∈ out, ∀ y ∈ a ++ b, cmpB x y ≤ 0
  mem : ∀ z, z ∈ out ++ (a ++ b) ↔ z ∈ l0
  len : ∀ p ∈ out ++ (a ++ b), p.length ≤ lim
  few : out.length + a.length + b.length ≤ lim
/-- the least row goes over, unless it is there -/
def pushR (out : List Row) (x : Row) : List Row := match out.getLast? with
  | none => [x]
  | some y => if cmpB y x = 0 then out else out ++ [x]
theorem push_inv {l0 a b a' b' out : List Row} {x : Row} (h : SInv l0 a b out) (ha : Srt a') (hb : Srt b') (hlt : ∀ y ∈ a' ++ b', cmpB x y ≤ 0) (hx : x ∈ a ++ b) (hm : ∀ z, z ∈ x :: (a' ++ b') ↔ z ∈ a ++ b) (hf : 1 + a'.length + b'.length ≤ a.length + b.length) : SInv l0 a' b' (pushR out x) ∧ (pushR out x).length ≤ out.length + 1 := by
  have hxl := h.len x (by simp only [List.mem_append] at hx ⊢; exact .inr hx)
  have key : ∀ out', Srt out' → (∀ z, z ∈ out' ↔ z ∈ out ∨ z = x) → out'.length ≤ out.length + 1 → SInv l0 a' b' out' ∧ out'.length ≤ out.length + 1 := fun out' s m l => by
    have hsub : ∀ y, y ∈ a' ++ b' → y ∈ a ++ b := fun y hy => (hm y).1 (by simp only [List.mem_cons]; exact .inr hy)
    refine ⟨⟨s, ha, hb, fun y hy z hz => ?_, fun z => ?_, fun p hp => ?_, by have := h.few; omega⟩, l⟩
    · rcases (m y).1 hy with hy | rfl
      · exact h.le y hy z (hsub z hz)
      · exact hlt z hz
    · rw [← h.mem z, (List.mem_append : z ∈ out' ++ (a' ++ b') ↔ _), (List.mem_append : z ∈ out ++ (a ++ b) ↔ _), m z, ← hm z, List.mem_cons]
      constructor
      · rintro ((h | h) | h)
        · exact .inl h
        · exact .inr (.inl h)
        · exact .inr (.inr h)
      · rintro (h | h | h)
        · exact .inl (.inl h)
        · exact .inl (.inr h)
        · exact .inr h
    · rcases List.mem_append.1 hp with hp | hp
      · rcases (m p).1 hp with hp | rfl
        · exact h.len p (by simp [hp])
        · exact hxl
      · exact h.len p (List.mem_append_right _ (hsub p hp))
  unfold pushR
  cases hl : out.getLast? with
  | none =>
    have : out = [] := by simpa using hl
    subst this
    exact key [x] (List.pairwise_singleton _ _) (fun z => by simp) (by simp)
  | some y =>
    simp only
    have hy : y ∈ out := List.mem_of_getLast? hl
    have hyx := h.le y hy x hx
    split
    · rename_i hc
      have hxy := cmp_zero hc
      refine key out h.so (fun z => ⟨.inl, fun hz => hz.elim id (fun e => by rw [e, ← hxy]; exact hy)⟩) (by omega)
    · rename_i hc
      refine key (out ++ [x]) (srt_snoc h.so (fun z hz => ?_)) (fun z => by simp) (by simp)
      have hzy : z = y ∨ cmpB z y < 0 := by
        obtain ⟨ys, e⟩ := List.getLast?_eq_some_iff.1 hl
        rw [e] at hz
        rcases List.mem_append.1 hz with hz | hz
        · right
          have := h.so
          rw [e] at this
          exact (List.pairwise_append.1 this).2.2 z hz y (by simp)
        · left; simpa using hz
      rcases hzy with rfl | hzy
      · omega
      · exact cmp_trans hzy (by omega)
theorem s_push {rec : (List Row × List Row × List Row) → Option (List Row)} {out a b : List Row} {x : Row} (hl : ∀ r ∈ out, r.length ≤ lim) (hf : out.length + 1 ≤ lim) : spec_l5Sort_J4 rec out a b x = rec (a, b, pushR out x) := by
  unfold spec_l5Sort_J4 pushR
  cases hg : out.getLast? with
  | none =>
    have : out = [] := by simpa using hg
    subst this
    simp only [List.length_nil, show (((0 : Nat) : Int) == 0) = true from rfl, cond_true, spec_l5Sort_J5]
    rw [chk_pos (by simp; unfold lim; omega)]; rfl
  | some y =>
    obtain ⟨ys, e⟩ := List.getLast?_eq_some_iff.1 hg
    have hpos : 0 < out.length := by rw [e]; simp
    have h0 : ((out.length : Int) == 0) = false := by rw [beq_eq_false_iff_ne]; omega
    have hgi : geti out (IntKind.i64.wrap ((out.length : Int) - 1)) = some y := by
      rw [wrap_in (by unfold lim at hf; omega), show (out.length : Int) - 1 = ((out.length - 1 : Nat) : Int) by omega, geti_nat, e]
      simp
    rw [h0, cond_false, hgi]
    simp only [obind, s_cmp (hl y (List.mem_of_getLast? hg)), spec_l5Sort_J5]
    by_cases hc : cmpB y x = 0
    · rw [if_pos hc, show (cmpB y x != 0) = false by rw [hc]; rfl, cond_false]
    · rw [if_neg hc, show (cmpB y x != 0) = true by simpa using hc, cond_true, chk_pos (by simpa using hf)]
theorem s_merge {l0 a b : List Row} (h0 : SInv l0 a b []) : ∃ o, loopF spec_l5Sort_B1 fz (a, b, ([] : List Row)) = some o ∧ SInv l0 [] [] o := by
  refine loop_wh (B := spec_l5Sort_B1) (fun s => SInv l0 s.1 s.2.1 s.2.2) (fun s => s.1.length + s.2.1.length) (fun o => SInv l0 [] [] o) ?_ fz (a, b, []) h0 (by have := h0.few; simp at this ⊢; unfold lim at this; unfold fz; omega)
  rintro ⟨a, b, out⟩ h
  change SInv l0 a b out at h
  have hf := h.few
  have hlo : ∀ r ∈ out, r.length ≤ lim := fun r hr => h.len r (by simp [hr])
  cases a with
  | nil =>
    cases b with
    | nil => exact .inl ⟨out, h, fun rec => rfl⟩
    | cons y b =>
      obtain ⟨s1, s2⟩ := List.pairwise_cons.1 h.sb
      obtain ⟨q1, q2⟩ := push_inv (x := y) (a' := []) (b' := b) h List.Pairwise.nil s2 (fun z hz => by have := s1 z (by simpa using hz); omega) (by simp) (fun z => by simp) (by simp; omega)
      refine .inr ⟨([], b, pushR out y), q1, by simp, fun rec => ?_⟩
      simp only [spec_l5Sort_B1, spec_l5Sort_J2, List.length_nil, pos_cons, Int.natCast_zero]
      rw [show decide ((0 : Int) < 0) = false from rfl]
      simp only [cond_false, cond_true, show ((0 : Int) == 0) = true from rfl, spec_l5Sort_J3, geti_0, obind]
      rw [show decide ((0 : Int) < 1) = true from rfl]
      simp only [cond_true, chk_tail, subl_tail]
      exact s_push hlo (by simp at hf; omega)
  | cons x a =>
    obtain ⟨r1, r2⟩ := List.pairwise_cons.1 h.sa
    cases b with
    | nil =>
      obtain ⟨q1, q2⟩ := push_inv (x := x) (a' := a) (b' := []) h r2 List.Pairwise.nil (fun z hz => by have := r1 z (by simpa using hz); omega) (by simp) (fun z => by simp) (by simp; omega)
      refine .inr ⟨(a, [], pushR out x), q1, by simp, fun rec => ?_⟩
      simp only [spec_l5Sort_B1, spec_l5Sort_J2, pos_cons, cond_true, len_cons0, cond_false, List.length_nil]
      rw [show decide ((0 : Int) < ((0 : Nat) : Int)) = false from rfl]
      simp only [cond_false, spec_l5Sort_J3, geti_0, obind]
      rw [show decide ((0 : Int) < -1) = false from rfl]
      simp only [cond_false, chk_tail, subl_tail]
      exact s_push hlo (by simp at hf; omega)
    | cons y b =>
      obtain ⟨s1, s2⟩ := List.pairwise_cons.1 h.sb
      have hlx := h.len x (by simp)
      by_cases hc : 0 < cmpB x y
      · have hyx : cmpB y x < 0 := by have := cmp_neg x y; omega
        obtain ⟨q1, q2⟩ := push_inv (x := y) (a' := x :: a) (b' := b) h h.sa s2 (fun z hz => by
          rcases List.mem_append.1 hz with hz | hz
          · rcases List.mem_cons.1 hz with rfl | hz
            · omega
            · have := cmp_trans hyx (r1 z hz); omega
          · have := s1 z hz; omega) (by simp) (fun z => by simp only [List.mem_cons, List.mem_append]; constructor <;> (intro hh; rcases hh with hh | (hh | hh) | hh <;> simp_all)) (by simp; omega)
        refine .inr ⟨(x :: a, b, pushR out y), q1, by simp, fun rec => ?_⟩
        simp only [spec_l5Sort_B1, spec_l5Sort_J2, pos_cons, cond_true, len_cons0, cond_false, geti_0, obind, s_cmp hlx, spec_l5Sort_J3]
        rw [decide_eq_true hc]
        simp only [cond_true, chk_tail, subl_tail]
        exact s_push hlo (by simp at hf; omega)
      · have hxy : cmpB x y ≤ 0 := by omega
        obtain ⟨q1, q2⟩ := push_inv (x := x) (a' := a) (b' := y :: b) h r2 h.sb (fun z hz => by
          rcases List.mem_append.1 hz with hz | hz
          · have := r1 z hz; omega
          · rcases List.mem_cons.1 hz with rfl | hz
            · exact hxy
            · have h3 := s1 z hz
              by_cases h4 : cmpB x y = 0
              · rw [cmp_zero h4]; omega
              · have := cmp_trans (by omega : cmpB x y < 0) h3; omega) (by simp) (fun z => by simp) (by simp; omega)
        refine .inr ⟨(a, y :: b, pushR out x), q1, by simp, fun rec => ?_⟩
        simp only [spec_l5Sort_B1, spec_l5Sort_J2, pos_cons, cond_true, len_cons0, cond_false, geti_0, obind, s_cmp hlx, spec_l5Sort_J3]
        rw [decide_eq_false hc]
        simp only [cond_false, chk_tail, subl_tail]
        exact s_push hlo (by simp at hf; omega)
theorem s_sort_m : ∀ (m : Nat) (l : List Row), l.length < m → l.length ≤ lim → (∀ r ∈ l, r.length ≤ lim) → loopF spec_l5Sort_R m l = some (sortB l)
  | 0, _, h, _, _ => by omega
  | m + 1, l, hm, hl, hr => by
    rw [loopF_succ, spec_l5Sort_R]
    by_cases h2 : (l.length : Int) < 2
    · rw [decide_eq_true h2, cond_true]
      have : Srt l := by
        match l, h2 with
        | [], _ => exact List.Pairwise.nil
        | [x], _ => exact List.pairwise_singleton _ _
        | x :: y :: l, h => simp at h; omega
      rw [← sort_of this (fun z => Iff.rfl)]
    · rw [decide_eq_false h2, cond_false, half_in hl]
      have e1 : subl l 0 ((l.length / 2 : Nat) : Int) = l.take (l.length / 2) := by unfold subl; rw [Int.toNat_natCast]; rfl
      have e2 : subl l ((l.length / 2 : Nat) : Int) (l.length : Int) = l.drop (l.length / 2) := by unfold subl; rw [Int.toNat_natCast, Int.toNat_natCast, List.take_length]
      have l1 : (l.take (l.length / 2)).length < m := by rw [List.length_take]; omega
      have l2 : (l.drop (l.length / 2)).length < m := by rw [List.length_drop]; omega
      rw [chk_pos (by omega), e1, s_sort_m m _ l1 (by rw [List.length_take]; omega) (fun r h => hr r (List.mem_of_mem_take h))]
      simp only [obind]
      rw [chk_pos (by omega), e2, s_sort_m m _ l2 (by rw [List.length_drop]; omega) (fun r h => hr r (List.mem_of_mem_drop h))]
      have s1 := sort_len (l.take (l.length / 2))
      have s2 := sort_len (l.drop (l.length / 2))
      rw [List.length_take] at s1
      rw [List.length_drop] at s2
      have hmem : ∀ z, z ∈ sortB (l.take (l.length / 2)) ++ sortB (l.drop (l.length / 2)) ↔ z ∈ l := fun z => by
        rw [List.mem_append, sort_mem, sort_mem, ← List.mem_append, List.take_append_drop]
      obtain ⟨o, ho, hI⟩ := s_merge (l0 := l) (a := sortB (l.take (l.length / 2))) (b := sortB (l.drop (l.length / 2))) ⟨List.Pairwise.nil, sort_srt _, sort_srt _, by simp, fun z => by rw [List.nil_append]; exact hmem z, fun p hp => hr p ((hmem p).1 (by simpa using hp)), by simp; omega⟩
      simp only [ho]
      rw [sort_of (l := l) hI.so (fun z => by have := hI.mem z; simpa using this)]
theorem s_sort {l : List Row} (h : smRows l) : spec_l5Sort l = some (sortB l) := s_sort_m fz l (lt_fz h.1) h.1 h.2
end Go.Proofs.YtmjhiencoapldaaGreat
