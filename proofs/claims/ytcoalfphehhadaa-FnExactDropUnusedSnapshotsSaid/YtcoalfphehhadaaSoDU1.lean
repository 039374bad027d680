/-
  Sorted rows, each once: the reference and the program agree. On the printed functions; conditions: lengths.
-/
import Derived.Test.YtcoalfphehhadaaFdDU1
-- pure
namespace Go.Proofs.Ytcoalfphehhadaa
open Go.RowKit
set_option linter.unusedSimpArgs false
set_option linter.unusedVariables false
abbrev Row := List Int
/-! ### the order of rows -/
theorem cmp_self : ∀ a : Row, cmpB a a = 0
  | [] => rfl
  | x :: a => by rw [cmpB, if_neg (by omega), if_neg (by omega)]; exact cmp_self a
theorem cmp_zero : ∀ {a b : Row}, cmpB a b = 0 → a = b
  | [], [], _ => rfl
  | [], _ :: _, h => by simp [cmpB] at h
  | _ :: _, [], h => by simp [cmpB] at h
  | x :: a, y :: b, h => by
    rw [cmpB] at h
    split at h
    · simp at h
    · split at h
      · simp at h
      · have : x = y := by omega
        rw [this, cmp_zero h]
theorem cmp_neg : ∀ a b : Row, cmpB b a = - cmpB a b
  | [], [] => rfl
  | [], _ :: _ => rfl
  | _ :: _, [] => rfl
  | x :: a, y :: b => by
    rw [cmpB, cmpB]
    by_cases h1 : x < y
    · rw [if_neg (by omega), if_pos h1, if_pos h1]; rfl
    · rw [if_neg h1]
      by_cases h2 : y < x
      · rw [if_pos h2, if_pos h2, if_neg h1]
      · rw [if_neg h2, if_neg h2, if_neg h1]; exact cmp_neg a b
theorem cmp_trans : ∀ {a b c : Row}, cmpB a b < 0 → cmpB b c < 0 → cmpB a c < 0
  | [], [], _, h, _ => by simp [cmpB] at h
  | [], _ :: _, [], _, h => by simp [cmpB] at h
  | [], _ :: _, _ :: _, _, _ => by simp [cmpB]
  | _ :: _, [], _, h, _ => by simp [cmpB] at h
  | _ :: _, _ :: _, [], _, h => by simp [cmpB] at h
  | x :: a, y :: b, z :: c, h1, h2 => by
    rw [cmpB] at h1 h2 ⊢
    by_cases e1 : x < y
    · by_cases e2 : y < z
      · rw [if_pos (by omega)]; simp
      · rw [if_neg e2] at h2
        by_cases e3 : z < y
        · rw [if_pos e3] at h2; simp at h2
        · rw [if_pos (by omega)]; simp
    · rw [if_neg e1] at h1
      by_cases e3 : y < x
      · rw [if_pos e3] at h1; simp at h1
      · rw [if_neg e3] at h1
        by_cases e2 : y < z
        · rw [if_pos (by omega)]; simp
        · rw [if_neg e2] at h2
          by_cases e4 : z < y
          · rw [if_pos e4] at h2; simp at h2
          · rw [if_neg e4] at h2
            rw [if_neg (by omega), if_neg (by omega)]
            exact cmp_trans h1 h2
/-- ascending, each once -/
def Srt (l : List Row) : Prop := l.Pairwise fun a b => cmpB a b < 0
theorem srt_eq : ∀ {a b : List Row}, Srt a → Srt b → (∀ x, x ∈ a ↔ x ∈ b) → a = b
  | [], [], _, _, _ => rfl
  | [], y :: b, _, _, h => by have := (h y).2 (by simp); simp at this
  | x :: a, [], _, _, h => by have := (h x).1 (by simp); simp at this
  | x :: a, y :: b, ha, hb, h => by
    obtain ⟨a1, a2⟩ := List.pairwise_cons.1 ha
    obtain ⟨b1, b2⟩ := List.pairwise_cons.1 hb
    have hxy : x = y := by
      rcases List.mem_cons.1 ((h x).1 (by simp)) with e | hx
      · exact e
      · rcases List.mem_cons.1 ((h y).2 (by simp)) with e | hy
        · exact e.symm
        · have h1 := b1 x hx
          have h2 := a1 y hy
          have := cmp_neg x y
          omega
    subst hxy
    have hne : ∀ z ∈ a, z ≠ x := fun z hz e => by subst e; have := a1 z hz; rw [cmp_self] at this; omega
    have hne' : ∀ z ∈ b, z ≠ x := fun z hz e => by subst e; have := b1 z hz; rw [cmp_self] at this; omega
    rw [srt_eq a2 b2 (fun z => ⟨fun hz => (List.mem_cons.1 ((h z).1 (by simp [hz]))).resolve_left (hne z hz), fun hz => (List.mem_cons.1 ((h z).2 (by simp [hz]))).resolve_left (hne' z hz)⟩)]
def insR (x : Row) : List Row → List Row
  | [] => [x]
  | y :: l => if cmpB x y < 0 then x :: y :: l else if cmpB x y = 0 then y :: l else y :: insR x l
def sortB (l : List Row) : List Row := l.foldr insR []
theorem ins_mem (x : Row) : ∀ (l : List Row) (z : Row), z ∈ insR x l ↔ z = x ∨ z ∈ l
  | [], z => by simp [insR]
  | y :: l, z => by
    rw [insR]
    split
    · simp
    · split
      · rename_i _ h; rw [cmp_zero h]; simp
      · rw [List.mem_cons, ins_mem x l z, List.mem_cons]
        constructor
        · rintro (h | h | h) <;> simp [h]
        · rintro (h | h | h) <;> simp [h]
theorem ins_srt (x : Row) : ∀ (l : List Row), Srt l → Srt (insR x l)
  | [], _ => List.pairwise_singleton _ _
  | y :: l, h => by
    obtain ⟨h1, h2⟩ := List.pairwise_cons.1 h
    rw [insR]
    split
    · rename_i hc
      refine List.pairwise_cons.2 ⟨fun z hz => ?_, h⟩
      rcases List.mem_cons.1 hz with rfl | hz
      · exact hc
      · exact cmp_trans hc (h1 z hz)
    · split
      · exact h
      · rename_i q1 q2
        refine List.pairwise_cons.2 ⟨fun z hz => ?_, ins_srt x l h2⟩
        rcases (ins_mem x l z).1 hz with rfl | hz
        · have := cmp_neg z y; omega
        · exact h1 z hz
theorem sort_srt : ∀ l : List Row, Srt (sortB l)
  | [] => List.Pairwise.nil
  | x :: l => ins_srt x _ (sort_srt l)
theorem sort_mem : ∀ (l : List Row) (z : Row), z ∈ sortB l ↔ z ∈ l
  | [], z => Iff.rfl
  | x :: l, z => by rw [show sortB (x :: l) = insR x (sortB l) from rfl, ins_mem, sort_mem l z, List.mem_cons]
theorem sort_of {l r : List Row} (h1 : Srt r) (h2 : ∀ z, z ∈ r ↔ z ∈ l) : r = sortB l := srt_eq h1 (sort_srt l) (fun z => by rw [h2, sort_mem])
theorem ins_len (x : Row) : ∀ l : List Row, (insR x l).length ≤ l.length + 1
  | [] => by simp [insR]
  | y :: l => by
    rw [insR]
    split
    · simp
    · split
      · simp
      · have := ins_len x l; simp; omega
theorem sort_len : ∀ l : List Row, (sortB l).length ≤ l.length
  | [] => by simp [sortB]
  | x :: l => by
    have h1 := sort_len l
    have h2 := ins_len x (sortB l)
    rw [show sortB (x :: l) = insR x (sortB l) from rfl, List.length_cons]; omega
/-! ### loops with a measure -/
theorem loop_wh {S O : Type} {B : (S → Option O) → S → Option O} (I : S → Prop) (μ : S → Nat) (R : O → Prop) (h : ∀ s, I s → (∃ o, R o ∧ ∀ rec, B rec s = some o) ∨ ∃ s', I s' ∧ μ s' < μ s ∧ ∀ rec, B rec s = rec s') : ∀ (m : Nat) (s : S), I s → μ s < m → ∃ o, loopF B m s = some o ∧ R o
  | 0, _, _, hm => by omega
  | m + 1, s, hs, hm => by
    rw [loopF_succ]
    rcases h s hs with ⟨o, ho, he⟩ | ⟨s', h1, h2, he⟩
    · exact ⟨o, he _, ho⟩
    · rw [he]; exact loop_wh I μ R h m s' h1 (by omega)
theorem subl_tail {α : Type} (x : α) (l : List α) : subl (x :: l) 1 ((x :: l).length : Int) = l := by
  unfold subl
  rw [Int.toNat_natCast, List.take_length]; rfl
theorem chk_tail {α β : Type} (x : α) (l : List α) (y : Option β) : chk ((0 : Int) ≤ 1 ∧ 1 ≤ (List.length (x :: l) : Int) ∧ (List.length (x :: l) : Int) ≤ (List.length (x :: l) : Int)) y = y := chk_pos (by simp only [List.length_cons]; omega)
theorem geti_0 {α : Type} (x : α) (l : List α) : geti (x :: l) 0 = some x := rfl
theorem pos_cons {α : Type} (x : α) (l : List α) : decide (0 < ((x :: l).length : Int)) = true := decide_eq_true (by simp only [List.length_cons]; omega)
theorem len_cons0 {α : Type} (x : α) (l : List α) : (((x :: l).length : Int) == 0) = false := by simp only [List.length_cons, beq_eq_false_iff_ne]; omega
/-! ### the program's sort -/
section
variable {A0 B0 : List Row}
abbrev NRow := Nat × Row
/-- what holds between two rounds -/
structure MInv (A0 B0 : List Row) (a b out : List NRow) : Prop where
  nd : ((out ++ (a ++ b)).map (·.1)).Nodup
  at_ : ∀ p ∈ out ++ (a ++ b), (A0 ++ B0)[p.1]? = some p.2
  so : Srt (out.map (·.2))
  sa : Srt (a.map (·.2))
  sb : Srt (b.map (·.2))
  lt : ∀ x ∈ out, ∀ y ∈ a ++ b, cmpB x.2 y.2 < 0
  mem : ∀ z, (z ∈ (out ++ (a ++ b)).map (·.2)) ↔ z ∈ A0 ++ B0
  len : ∀ p ∈ a ++ b, p.2.length ≤ lim
  few : out.length + a.length + b.length ≤ lim
theorem srt_snoc {l : List Row} {x : Row} (h : Srt l) (hx : ∀ y ∈ l, cmpB y x < 0) : Srt (l ++ [x]) := by
  unfold Srt
  rw [List.pairwise_append]
  exact ⟨h, List.pairwise_singleton _ _, fun a ha b hb => by rw [List.mem_singleton] at hb; subst hb; exact hx a ha⟩
theorem MInv.takeA {x : NRow} {a b out : List NRow} (h : MInv A0 B0 (x :: a) b out) (hb : ∀ y ∈ b, cmpB x.2 y.2 < 0) : MInv A0 B0 a b (out ++ [x]) := by
  have sa := h.sa
  rw [List.map_cons] at sa
  obtain ⟨s1, s2⟩ := List.pairwise_cons.1 sa
  have e : out ++ [x] ++ (a ++ b) = out ++ (x :: a ++ b) := by simp
  refine ⟨by rw [e]; exact h.nd, by rw [e]; exact h.at_, ?_, s2, h.sb, ?_, by rw [e]; exact h.mem, fun p hp => h.len p (by simp only [List.cons_append, List.mem_cons]; exact .inr hp), by have := h.few; simp only [List.length_append, List.length_cons, List.length_nil] at this ⊢; omega⟩
  · rw [List.map_append]
    exact srt_snoc h.so (fun y hy => by obtain ⟨p, hp, rfl⟩ := List.mem_map.1 hy; exact h.lt p hp x (by simp))
  · intro p hp y hy
    rcases List.mem_append.1 hp with hp | hp
    · exact h.lt p hp y (by simp only [List.cons_append, List.mem_cons]; exact .inr hy)
    · rw [List.mem_singleton] at hp
      subst hp
      rcases List.mem_append.1 hy with hy | hy
      · exact s1 y.2 (List.mem_map_of_mem hy)
      · exact hb y hy
theorem MInv.takeB {y : NRow} {a b out : List NRow} (h : MInv A0 B0 a (y :: b) out) (ha : ∀ x ∈ a, cmpB y.2 x.2 < 0) : MInv A0 B0 a b (out ++ [y]) := by
  have sb := h.sb
  rw [List.map_cons] at sb
  obtain ⟨s1, s2⟩ := List.pairwise_cons.1 sb
  have pe : (out ++ [y] ++ (a ++ b)).Perm (out ++ (a ++ y :: b)) := by
    rw [List.append_assoc]
    exact List.Perm.append_left _ (by rw [List.singleton_append]; exact (List.perm_middle (l₁ := a)).symm)
  refine ⟨((pe.map _).nodup_iff).2 h.nd, fun p hp => h.at_ p (pe.mem_iff.1 hp), ?_, h.sa, s2, ?_, fun z => by rw [(pe.map _).mem_iff]; exact h.mem z, fun p hp => h.len p (by rcases List.mem_append.1 hp with hp | hp <;> simp [hp]), by have := h.few; simp only [List.length_append, List.length_cons, List.length_nil] at this ⊢; omega⟩
  · rw [List.map_append]
    exact srt_snoc h.so (fun z hz => by obtain ⟨p, hp, rfl⟩ := List.mem_map.1 hz; exact h.lt p hp y (by simp))
  · intro p hp z hz
    rcases List.mem_append.1 hp with hp | hp
    · exact h.lt p hp z (by rcases List.mem_append.1 hz with hz | hz <;> simp [hz])
    · rw [List.mem_singleton] at hp
      subst hp
      rcases List.mem_append.1 hz with hz | hz
      · exact ha z hz
      · exact s1 z.2 (List.mem_map_of_mem hz)
/-- equal heads: the second is left out -/
theorem MInv.takeEq {x y : NRow} {a b out : List NRow} (h : MInv A0 B0 (x :: a) (y :: b) out) (e : x.2 = y.2) : MInv A0 B0 a b (out ++ [x]) := by
  have sb := h.sb
  rw [List.map_cons] at sb
  obtain ⟨s1, s2⟩ := List.pairwise_cons.1 sb
  have h2 : MInv A0 B0 (x :: a) b out → MInv A0 B0 a b (out ++ [x]) := fun h' => h'.takeA (fun z hz => by rw [e]; exact s1 z.2 (List.mem_map_of_mem hz))
  refine h2 ?_
  have sub2 : ∀ {z : NRow}, z ∈ x :: a ++ b → z ∈ x :: a ++ y :: b := fun hz => (List.Sublist.append (List.Sublist.refl _) (List.sublist_cons_self _ _)).subset hz
  have sub : List.Sublist (out ++ (x :: a ++ b)) (out ++ (x :: a ++ y :: b)) := List.Sublist.append (List.Sublist.refl _) (List.Sublist.append (List.Sublist.refl _) (List.sublist_cons_self _ _))
  refine ⟨h.nd.sublist (sub.map _), fun p hp => h.at_ p (sub.subset hp), h.so, h.sa, s2, fun p hp z hz => h.lt p hp z (sub2 hz), fun z => ?_, fun p hp => h.len p (sub2 hp), by have := h.few; simp only [List.length_cons] at this ⊢; omega⟩
  rw [← h.mem z]
  constructor
  · intro hz; exact (sub.map _).subset hz
  · intro hz
    obtain ⟨p, hp, rfl⟩ := List.mem_map.1 hz
    by_cases hy : p = y
    · subst hy
      rw [← e]
      exact List.mem_map_of_mem (by simp)
    · refine List.mem_map_of_mem ?_
      simp only [List.mem_append, List.mem_cons] at hp ⊢
      rcases hp with hp | (hp | hp) | hp | hp
      · exact .inl hp
      · exact .inr (.inl (.inl hp))
      · exact .inr (.inl (.inr hp))
      · exact absurd hp hy
      · exact .inr (.inr hp)
theorem lt_head {x y : NRow} {b : List NRow} (hs : Srt ((y :: b).map (·.2))) (h : cmpB x.2 y.2 < 0) : ∀ z ∈ y :: b, cmpB x.2 z.2 < 0 := by
  rw [List.map_cons] at hs
  obtain ⟨s1, s2⟩ := List.pairwise_cons.1 hs
  intro z hz
  rcases List.mem_cons.1 hz with rfl | hz
  · exact h
  · exact cmp_trans h (s1 z.2 (List.mem_map_of_mem hz))
theorem okJ_inl {l : List Row} : ∀ (o : List NRow) (seen : List Nat), (o.map (·.1)).Nodup → (∀ p ∈ o, p.1 ∉ seen) → (∀ p ∈ o, l[p.1]? = some p.2) → okJ l (o.map Sum.inl) seen = true
  | [], _, _, _, _ => rfl
  | p :: o, seen, hn, hs, ha => by
    rw [List.map_cons] at hn
    obtain ⟨n1, n2⟩ := List.nodup_cons.1 hn
    simp only [List.map_cons, okJ, ha p (by simp), beq_self_eq_true, Bool.true_and, Bool.and_eq_true, Bool.not_eq_true']
    refine ⟨by simpa using hs p (by simp), okJ_inl o _ n2 (fun q hq => ?_) (fun q hq => ha q (by simp [hq]))⟩
    simp only [List.mem_cons, not_or]
    exact ⟨fun e => n1 (by rw [← e]; exact List.mem_map_of_mem hq), hs q (by simp [hq])⟩
theorem enum_map2 : ∀ (k : Nat) (l : List Row), (enumP k l).map (·.2) = l
  | _, [] => rfl
  | k, x :: l => by rw [enumP, List.map_cons, enum_map2 (k + 1) l]
theorem enum_map1 : ∀ (k : Nat) (l : List Row), (enumP k l).map (·.1) = List.range' k l.length
  | _, [] => rfl
  | k, x :: l => by rw [enumP, List.map_cons, enum_map1 (k + 1) l, List.length_cons, List.range'_succ]
theorem enum_mem : ∀ (k : Nat) (l : List Row) (p : NRow), p ∈ enumP k l → k ≤ p.1 ∧ l[p.1 - k]? = some p.2
  | _, [], p, h => by simp [enumP] at h
  | k, x :: l, p, h => by
    rw [enumP] at h
    rcases List.mem_cons.1 h with rfl | h
    · simp
    · obtain ⟨h1, h2⟩ := enum_mem (k + 1) l p h
      refine ⟨by omega, ?_⟩
      rw [show p.1 - k = (p.1 - (k + 1)) + 1 by omega]
      simpa using h2
theorem start_inv (hA : Srt A0) (hB : Srt B0) (hl : A0.length + B0.length ≤ lim) (hr : ∀ x ∈ A0 ++ B0, x.length ≤ lim) : MInv A0 B0 (enumP 0 A0) (enumP A0.length B0) [] := by
  refine ⟨?_, ?_, List.Pairwise.nil, by rw [enum_map2]; exact hA, by rw [enum_map2]; exact hB, by simp, ?_, ?_, by simp [enumP_len]; exact hl⟩
  · rw [List.nil_append, List.map_append, enum_map1, enum_map1, show List.range' 0 A0.length ++ List.range' A0.length B0.length = List.range' 0 (A0.length + B0.length) by have := List.range'_append_1 (s := 0) (m := A0.length) (n := B0.length); rwa [Nat.zero_add] at this]
    exact List.nodup_range'
  · intro p hp
    rw [List.nil_append] at hp
    rcases List.mem_append.1 hp with hp | hp
    · obtain ⟨_, h2⟩ := enum_mem 0 A0 p hp
      rw [Nat.sub_zero] at h2
      have hlt : p.1 < A0.length := by
        rcases Nat.lt_or_ge p.1 A0.length with h | h
        · exact h
        · rw [List.getElem?_eq_none h] at h2; cases h2
      rw [List.getElem?_append_left hlt]; exact h2
    · obtain ⟨h1, h2⟩ := enum_mem A0.length B0 p hp
      rw [List.getElem?_append_right h1]; exact h2
  · intro z
    rw [List.nil_append, List.map_append, enum_map2, enum_map2]
  · intro p hp
    refine hr p.2 ?_
    rcases List.mem_append.1 hp with hp | hp
    · have := List.mem_map_of_mem (f := fun x : NRow => x.2) hp; rw [enum_map2] at this; simp [this]
    · have := List.mem_map_of_mem (f := fun x : NRow => x.2) hp; rw [enum_map2] at this; simp [this]
end
theorem half_in {n : Nat} (hn : n ≤ lim) : IntKind.i64.wrap (Int.tdiv (n : Int) 2) = ((n / 2 : Nat) : Int) := by
  rw [show Int.tdiv (n : Int) 2 = ((n / 2 : Nat) : Int) by rw [Int.tdiv_eq_ediv_of_nonneg (by omega)]; omega]
  exact wrap_in (by unfold lim at hn; omega)
/-! ### the reference's sort -/
structure SInv (l0 : List Row) (a b out : List Row) : Prop where
  so : Srt out
  sa : Srt a
  sb : Srt b
  le : ∀ x ∈ out, ∀ y ∈ a ++ b, cmpB x y ≤ 0
  mem : ∀ z, z ∈ out ++ (a ++ b) ↔ z ∈ l0
  len : ∀ p ∈ out ++ (a ++ b), p.length ≤ lim
  few : out.length + a.length + b.length ≤ lim
/-- the least row goes over, unless it is there -/
def pushR (out : List Row) (x : Row) : List Row := match out.getLast? with
  | none => [x]
  | some y => if cmpB y x = 0 then out else out ++ [x]
theorem push_inv {l0 a b a' b' out : List Row} {x : Row} (h : SInv l0 a b out) (ha : Srt a') (hb : Srt b') (hlt : ∀ y ∈ a' ++ b', cmpB x y ≤ 0) (hx : x ∈ a ++ b) (hm : ∀ z, z ∈ x :: (a' ++ b') ↔ z ∈ a ++ b) (hf : 1 + a'.length + b'.length ≤ a.length + b.length) : SInv l0 a' b' (pushR out x) ∧ (pushR out x).length ≤ out.length + 1 := by
  have hxl := h.len x (by simp only [List.mem_append] at hx ⊢; exact .inr hx)
  have key : ∀ out', Srt out' → (∀ z, z ∈ out' ↔ z ∈ out ∨ z = x) → out'.length ≤ out.length + 1 → SInv l0 a' b' out' ∧ out'.length ≤ out.length + 1 := fun out' s m l => by
    have hsub : ∀ y, y ∈ a' ++ b' → y ∈ a ++ b := fun y hy => (hm y).1 (by simp only [List.mem_cons]; exact .inr hy)
    refine ⟨⟨s, ha, hb, fun y hy z hz => ?_, fun z => ?_, fun p hp => ?_, by have := h.few; omega⟩, l⟩
    · rcases (m y).1 hy with hy | rfl
      · exact h.le y hy z (hsub z hz)
      · exact hlt z hz
    · rw [← h.mem z, (List.mem_append : z ∈ out' ++ (a' ++ b') ↔ _), (List.mem_append : z ∈ out ++ (a ++ b) ↔ _), m z, ← hm z, List.mem_cons]
      constructor
      · rintro ((h | h) | h)
        · exact .inl h
        · exact .inr (.inl h)
        · exact .inr (.inr h)
      · rintro (h | h | h)
        · exact .inl (.inl h)
        · exact .inl (.inr h)
        · exact .inr h
    · rcases List.mem_append.1 hp with hp | hp
      · rcases (m p).1 hp with hp | rfl
        · exact h.len p (by simp [hp])
        · exact hxl
      · exact h.len p (List.mem_append_right _ (hsub p hp))
  unfold pushR
  cases hl : out.getLast? with
  | none =>
    have : out = [] := by simpa using hl
    subst this
    exact key [x] (List.pairwise_singleton _ _) (fun z => by simp) (by simp)
  | some y =>
    simp only
    have hy : y ∈ out := List.mem_of_getLast? hl
    have hyx := h.le y hy x hx
    split
    · rename_i hc
      have hxy := cmp_zero hc
      refine key out h.so (fun z => ⟨.inl, fun hz => hz.elim id (fun e => by rw [e, ← hxy]; exact hy)⟩) (by omega)
    · rename_i hc
      refine key (out ++ [x]) (srt_snoc h.so (fun z hz => ?_)) (fun z => by simp) (by simp)
      have hzy : z = y ∨ cmpB z y < 0 := by
        obtain ⟨ys, e⟩ := List.getLast?_eq_some_iff.1 hl
        rw [e] at hz
        rcases List.mem_append.1 hz with hz | hz
        · right
          have := h.so
          rw [e] at this
          exact (List.pairwise_append.1 this).2.2 z hz y (by simp)
        · left; simpa using hz
      rcases hzy with rfl | hzy
      · omega
      · exact cmp_trans hzy (by omega)
end Go.Proofs.Ytcoalfphehhadaa
