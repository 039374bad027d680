/-
  The pure machine, part 12: regions whose order is open: every order leaves what the text's order leaves. Over no program; no conditions.
-/
import Derived.Test.YtkmkbpphdalgoaaPloc
namespace Go.Proofs.Ytkmkbpphdalgoaa
open Go.RowKit
set_option linter.unusedVariables false

theorem evO_elim {P : Program} {tb : Tb} {cns : List Nat} {K : PS → Prop} {o : LO} {σ : PS} (h : evO P tb cns o σ K) : ∃ σ1, evO P tb cns o σ (fun s => s = σ1) ∧ K σ1 := by
  have hp : ∀ {o : LO} {σ : PS}, pureS tb o σ K → ∃ σ1, pureS tb o σ (fun s => s = σ1) ∧ K σ1 := by
    intro o σ h
    unfold pureS at *
    split at h
    · exact h.elim
    · split at h
      · exact ⟨_, ⟨h.1, rfl⟩, h.2⟩
      · exact h.elim
      · rename_i q b _
        by_cases hb : isB b (σ q) = true
        · exact ⟨_, ⟨h.1, fun e => ⟨(h.2.1 hb).1, rfl⟩, fun e => by rw [hb] at e; cases e⟩, (h.2.1 hb).2⟩
        · exact ⟨_, ⟨h.1, fun e => absurd e hb, fun e => rfl⟩, h.2.2 (by simpa using hb)⟩
  have hc : ∀ {o : LO} {f : FuncId} {args : List Operand} {σ : PS}, callS P o f args σ K → ∃ σ1, callS P o f args σ (fun s => s = σ1) ∧ K σ1 := by
    intro o f args σ h
    unfold callS at *
    split at h
    · exact ⟨_, ⟨h.1, h.2.choose, h.2.choose_spec.1, rfl⟩, h.2.choose_spec.2⟩
    · split at h
      · rename_i b _ _ q d _ _
        by_cases hb : isB b (σ q) = true
        · exact ⟨_, ⟨h.1, fun e => ⟨(h.2.1 hb).1, (h.2.1 hb).2.choose, (h.2.1 hb).2.choose_spec.1, rfl⟩, fun e => by rw [hb] at e; cases e⟩, (h.2.1 hb).2.choose_spec.2⟩
        · exact ⟨_, ⟨h.1, fun e => absurd e hb, fun e => rfl⟩, h.2.2 (by simpa using hb)⟩
      · exact h.elim
  have ha : ∀ {o : LO} {x : Operand} {d : Nat} {σ : PS}, asgS tb o x d σ K → ∃ σ1, asgS tb o x d σ (fun s => s = σ1) ∧ K σ1 := by
    intro o x d σ h
    unfold asgS at *
    split at h
    · split at h
      · exact ⟨_, rfl, h⟩
      · exact h.elim
    · split at h
      · exact ⟨_, rfl, h⟩
      · exact ⟨_, ⟨h.1, rfl⟩, h.2⟩
    · exact ⟨_, ⟨h.1, rfl⟩, h.2⟩
  have hu : ∀ {x : Operand} {d : Nat} {σ : PS}, asgU x d σ K → ∃ σ1, asgU x d σ (fun s => s = σ1) ∧ K σ1 := by
    intro x d σ h
    unfold asgU at *
    split at h
    · split at h
      · exact ⟨_, ⟨h.1, rfl⟩, h.2⟩
      · exact h.elim
    · exact h.elim
  unfold evO at *
  split at h
  · split at h
    · rename_i hc; simp only [if_pos hc]; obtain ⟨s, h1, h2⟩ := hu h.2; exact ⟨s, ⟨h.1, h1⟩, h2⟩
    · rename_i hc; simp only [if_neg hc]; obtain ⟨s, h1, h2⟩ := ha h.2; exact ⟨s, ⟨h.1, h1⟩, h2⟩
  · split at h
    · rename_i hc; simp only [if_pos hc]; obtain ⟨s, h1, h2⟩ := ha h.2; exact ⟨s, ⟨h.1, h1⟩, h2⟩
    · rename_i hc; simp only [if_neg hc]; exact hp h
  · split at h
    · rename_i hc
      simp only [if_pos hc]
      have h0 := h.1
      have h2 := h.2
      unfold loadS at *
      split at h2
      · split at h2
        · exact ⟨_, ⟨h0, h2.1, rfl⟩, h2.2⟩
        · exact h2.elim
      · exact ⟨_, ⟨h0, h2.1, rfl⟩, h2.2⟩
      · exact h2.elim
    · rename_i hc; simp only [if_neg hc]; exact hp h
  · have h0 := h.1
    have h2 := h.2
    unfold extS at *
    split at h2
    · split at h2
      · exact ⟨_, ⟨h0, h2.1, rfl⟩, h2.2⟩
      · exact h2.elim
    · exact h2.elim
  · have h0 := h.1
    have h2 := h.2
    unfold stoS at *
    split at h2
    · split at h2
      · exact ⟨_, ⟨h0, h2.1, h2.2.1, h2.2.2.1, rfl⟩, h2.2.2.2⟩
      · exact h2.elim
    · exact h2.elim
  · have h0 := h.1
    have h2 := h.2
    unfold allocS at *
    split at h2
    · exact ⟨_, ⟨h0, h2.1, rfl⟩, h2.2⟩
    · exact h2.elim
  · exact ⟨_, ⟨h.1, h.2.1, h.2.2.1, rfl⟩, h.2.2.2⟩
  · have h0 := h.1
    have h2 := h.2
    unfold buildS at *
    split at h2
    · split at h2
      · exact ⟨_, ⟨h0, rfl⟩, h2⟩
      · exact h2.elim
    · exact h2.elim
  · have h0 := h.1
    have h2 := h.2
    unfold bslS at *
    split at h2
    · split at h2
      · exact ⟨_, ⟨h0, h2.1, h2.2.1, rfl⟩, h2.2.2⟩
      · exact h2.elim
    · exact h2.elim
  · split at h
    · rename_i hc
      simp only [if_pos hc]
      have h0 := h.1
      have h2 := h.2
      unfold makeU at *
      split at h2
      · exact ⟨_, ⟨h0, h2.1, h2.2.1, h2.2.2.1, h2.2.2.2.1, rfl⟩, h2.2.2.2.2⟩
      · exact h2.elim
    · rename_i hc
      simp only [if_neg hc]
      have h0 := h.1
      have h2 := h.2
      unfold makeS at *
      split at h2
      · exact ⟨_, ⟨h0, h2.1, h2.2.1, h2.2.2.1, rfl⟩, h2.2.2.2⟩
      · exact h2.elim
  · unfold callS' at *
    split at h
    · exact hc h
    · have h0 := h.1
      have h2 := h.2
      unfold appS at *
      split at h2
      · exact ⟨_, ⟨h0, h2.1, h2.2.1, h2.2.2.1, h2.2.2.2.1, rfl⟩, h2.2.2.2.2⟩
      · exact h2.elim
    · exact hp h
  · exact hp h

/-- the operations in the text's order, each with what it looks at and what it turns -/
def evD (P : Program) (tb : Tb) (cns : List Nat) : List (List Nat × List Nat) → List LO → PS → (PS → Prop) → Prop
  | _, [], σ, K => K σ
  | [], _ :: _, _, _ => False
  | (R, W) :: fps, o :: os, σ, K => (adP o.op).all (fun p => bas R (σ p)) = true ∧ (adU cns o).all (fun p => bas R (σ p)) = true ∧ evO P tb cns o σ (fun σ' => evD P tb cns fps os σ' K)
/-- each operation looks at no more and turns no more than is said -/
def okF (cns : List Nat) : List (List Nat × List Nat) → List LO → Bool
  | _, [] => true
  | [], _ :: _ => false
  | (R, W) :: fps, o :: os => fpB cns R W o && okF cns fps os
/-- what an operation must wait for, and what that must wait for, and so on -/
def ancs : List (List Nat) → List (List Nat) → List (List Nat)
  | acc, [] => acc
  | acc, e :: es => ancs (acc ++ [(e ++ e.flatMap (fun k => acc.getD k [])).eraseDups]) es
def meets (a b : List Nat) : Bool := a.any b.contains
def clash (x y : List Nat × List Nat) : Bool := meets x.2 y.1 || meets x.2 y.2 || meets x.1 y.2
/-- operations that clash stand behind each other -/
def okD (fps : List (List Nat × List Nat)) (es : List (List Nat)) : Bool :=
  fps.length == es.length && (List.range es.length).all fun j => (es.getD j []).all (fun k => decide (k < j)) && (List.range j).all fun i => !clash (fps.getD i ([], [])) (fps.getD j ([], [])) || ((ancs [] es).getD j []).contains i
theorem ancs_in {X : Nat → Prop} {es0 : List (List Nat)} (hX : ∀ k, X k → ∀ m ∈ es0.getD k [], X m) : ∀ (es acc pre : List (List Nat)), es0 = pre ++ es → pre.length = acc.length →
    (∀ j, (∀ k ∈ es0.getD j [], X k) → ∀ i ∈ acc.getD j [], X i) → ∀ j, (∀ k ∈ es0.getD j [], X k) → ∀ i ∈ (ancs acc es).getD j [], X i
  | [], acc, pre, _, _, h => h
  | e :: es, acc, pre, he, hl, h => by
    unfold ancs
    refine ancs_in hX es _ (pre ++ [e]) (by rw [he]; simp) (by simp [hl]) ?_
    intro j hj i hi
    rcases Nat.lt_trichotomy j acc.length with hlt | heq | hgt
    · refine h j hj i ?_
      simpa [List.getElem?_append_left hlt] using hi
    · subst heq
      have hej : es0.getD acc.length [] = e := by rw [he]; simp [← hl]
      rw [hej] at hj
      have hi' : i ∈ (e ++ e.flatMap (fun k => acc.getD k [])).eraseDups := by simpa using hi
      rw [List.mem_eraseDups, List.mem_append, List.mem_flatMap] at hi'
      rcases hi' with hi' | ⟨k, hk, hi'⟩
      · exact hj i hi'
      · exact h k (hX k (hj k hk)) i hi'
    · exfalso
      have : (acc ++ [(e ++ e.flatMap (fun k => acc.getD k [])).eraseDups])[j]? = none := List.getElem?_eq_none (by simp; omega)
      rw [List.getD_eq_getElem?_getD, this] at hi
      simp at hi
theorem countP_less {α : Type} {p q : α → Bool} (h : ∀ x, p x = true → q x = true) : ∀ {l : List α} {x : α}, x ∈ l → q x = true → p x = false → l.countP p < l.countP q
  | [], _, hx, _, _ => by simp at hx
  | y :: l, x, hx, h1, h2 => by
    have hle : l.countP p ≤ l.countP q := List.countP_mono_left (fun x _ => h x)
    rw [List.countP_cons, List.countP_cons]
    rcases List.mem_cons.1 hx with rfl | hx
    · rw [h1, h2]; simp; omega
    · have := countP_less h hx h1 h2
      have h3 : (if p y = true then 1 else 0) ≤ (if q y = true then 1 else 0) := by
        split
        · rename_i hp; rw [if_pos (h y hp)]; exact Nat.le_refl 1
        · exact Nat.zero_le _
      omega
/-- the state when the operations of X have been done -/
def mix (s : Nat → PS) (W : Nat → List Nat) (X : Nat → Bool) : Nat → PS
  | 0 => s 0
  | m + 1 => if X m = true then pt (W m) (s (m + 1)) (mix s W X m) else mix s W X m
section
variable {s : Nat → PS} {R W : Nat → List Nat} {X : Nat → Bool} {n i : Nat}
theorem mix_stay {q : Nat} : ∀ {m k : Nat}, m ≤ k → (∀ j, m ≤ j → j < k → X j = true → (W j).contains q = false) → mix s W X k q = mix s W X m q := by
  intro m k hmk h
  induction k with
  | zero => have : m = 0 := by omega
            subst this; rfl
  | succ k ih =>
    rcases Nat.lt_or_ge k m with hlt | hge
    · have : m = k + 1 := by omega
      subst this; rfl
    · rw [← ih hge (fun j h1 h2 => h j h1 (by omega))]
      simp only [mix]
      split
      · rename_i hx
        have := h k hge (by omega) hx
        simp only [pt]
        rw [if_neg (by rw [this]; exact Bool.false_ne_true)]
      · rfl
theorem mix_at {q : Nat} (hloc : ∀ m, m < n → ∀ q, (W m).contains q = false → s (m + 1) q = s m q) : ∀ {m : Nat}, m ≤ n → (∀ j, j < m → (W j).contains q = true → X j = true) → mix s W X m q = s m q := by
  intro m hm h
  induction m with
  | zero => rfl
  | succ m ih =>
    have ih := ih (by omega) (fun j hj => h j (by omega))
    simp only [mix]
    by_cases hw : (W m).contains q = true
    · rw [if_pos (h m (by omega) hw)]
      simp only [pt]
      rw [if_pos hw]
    · have hw' : (W m).contains q = false := by simpa using hw
      split
      · simp only [pt]; rw [if_neg hw, ih, hloc m (by omega) q hw']
      · rw [ih, hloc m (by omega) q hw']
theorem mix_set (hi : i < n) (hlater : ∀ j q, i < j → j < n → (W i).contains q = true → (W j).contains q = true → X j = false) (X' : Nat → Bool) (hX' : ∀ j, X' j = (X j || j == i)) :
    mix s W X' n = pt (W i) (s (i + 1)) (mix s W X n) := by
  funext q
  have hne : ∀ j, j ≠ i → X' j = X j := fun j hj => by rw [hX']; simp [hj]
  have hii : X' i = true := by rw [hX']; simp
  have hpre : ∀ m, m ≤ i → mix s W X' m = mix s W X m := by
    intro m
    induction m with
    | zero => intro _; rfl
    | succ m ih => intro hm; simp only [mix]; rw [hne m (by omega), ih (by omega)]
  simp only [pt]
  by_cases hw : (W i).contains q = true
  · rw [if_pos hw, mix_stay (m := i + 1) (by omega) (fun j h1 h2 hx => ?_)]
    · simp only [mix, if_pos hii, pt, if_pos hw]
    · cases hwj : (W j).contains q
      · rfl
      · rw [hne j (by omega), hlater j q (by omega) h2 hw hwj] at hx; cases hx
  · rw [if_neg hw]
    have : ∀ m, m ≤ n → mix s W X' m q = mix s W X m q := by
      intro m
      induction m with
      | zero => intro _; rfl
      | succ m ih =>
        intro hm
        have ih := ih (by omega)
        simp only [mix]
        by_cases hmi : m = i
        · subst hmi
          rw [if_pos hii]
          simp only [pt]
          rw [if_neg hw, ih]
          split
          · simp only [pt]; rw [if_neg hw]
          · rfl
        · rw [hne m hmi]
          split
          · simp only [pt]; split
            · rfl
            · exact ih
          · exact ih
    exact this n (Nat.le_refl _)
end
section
variable {P : Program} {tb : Tb} {nt : Nat} {bx cns : List Nat} {σ : PS} {K : PS → Prop}
theorem evD_run : ∀ {fps : List (List Nat × List Nat)} {os : List LO} {σ : PS}, okF cns fps os = true → evD P tb cns fps os σ K →
    ∃ s : Nat → PS, s 0 = σ ∧ K (s os.length) ∧ ∀ i o, os[i]? = some o → fpS cns (fps.getD i ([], [])).1 (fps.getD i ([], [])).2 o (s i) ∧ evO P tb cns o (s i) (fun σ' => σ' = s (i + 1))
  | fps, [], σ, _, h => ⟨fun _ => σ, rfl, by simpa [evD] using h, fun i o hi => by simp at hi⟩
  | [], _ :: _, _, _, h => h.elim
  | (R, W) :: fps, o :: os, σ, hk, h => by
    simp only [okF, Bool.and_eq_true] at hk
    obtain ⟨hf, hf', h⟩ := h
    replace hf : fpS cns R W o σ := ⟨hk.1, hf, hf'⟩
    obtain ⟨σ1, h1, h2⟩ := evO_elim h
    obtain ⟨s, s0, sk, hs⟩ := evD_run hk.2 h2
    refine ⟨fun i => match i with | 0 => σ | i + 1 => s i, rfl, by simpa using sk, fun i o' hi => ?_⟩
    cases i with
    | zero =>
      simp only [List.getElem?_cons_zero, Option.some.injEq] at hi
      subst hi
      refine ⟨by simpa using hf, ?_⟩
      show evO P tb cns o σ (fun σ' => σ' = s 0)
      rw [s0]; exact h1
    | succ i => simpa using hs i o' (by simpa using hi)
theorem rel_drawn {base : Nat} {St0 : Nat → Nat → Prop} {w0 w : World} {a : Act} {k : Nat} (hr : Rel P nt bx base St0 w0 σ a w) : Rel P nt bx base St0 w0 σ a { w with drawn := k } := by
  obtain ⟨St, B, h, hb, hst, hz⟩ := hr
  exact ⟨St, B, h.world (fun _ _ h => h) (fun _ _ _ => rfl) (Nat.le_refl _) (fun _ _ _ => ⟨rfl, fun _ => Iff.rfl⟩) h.st, ⟨hb.os, hb.tape, hb.output, hb.size, hb.block⟩, hst, hz⟩
theorem edg_at {ops : Array Oper} {j : Nat} {o : Oper} (ho : ops[j]? = some o) : (ops.toList.map edg).getD j [] = edg o := by
  rw [List.getD_eq_getElem?_getD, List.getElem?_map, Array.getElem?_toList, ho]; rfl
theorem meets_of {a b : List Nat} {q : Nat} (h1 : a.contains q = true) (h2 : b.contains q = true) : meets a b = true := by
  unfold meets
  rw [List.any_eq_true]
  exact ⟨q, by simpa using h1, h2⟩
theorem getD_set {l : Array Bool} {i j : Nat} (hi : i < l.size) : (l.setIfInBounds i true).getD j false = (l.getD j false || j == i) := by
  by_cases h : i = j
  · subst h; simp [hi]
  · rw [getD_set_ne false h]
    have : (j == i) = false := by simp; omega
    rw [this, Bool.or_false]
theorem drw_any (htb : TbOk P tb) {ops : Array Oper} {fps : List (List Nat × List Nat)} {s : Nat → PS} (hok : ops.toList.all (okOp nt bx) = true) (hA : (ops.toList.map (liteO ops)).all (okA bx cns) = true) (hD : okD fps (ops.toList.map edg) = true)
    (hs : ∀ i o, (ops.toList.map (liteO ops))[i]? = some o → fpS cns (fps.getD i ([], [])).1 (fps.getD i ([], [])).2 o (s i) ∧ evO P tb cns o (s i) (fun σ' => σ' = s (i + 1)))
    {base : Nat} {St0 : Nat → Nat → Prop} {w0 : World} {Q : Exit → Act → World → Prop} (hQ : ∀ a w, Rel P nt bx base St0 w0 (s ops.size) a w → Q .normal a w) :
    ∀ (fuel : Nat) (listed : Array Bool) (a : Act) (w : World), listed.size = ops.size → ((List.range ops.size).countP (fun i => !listed.getD i false)) ≤ fuel →
      (∀ k, listed.getD k false = true → ∀ m ∈ (ops.toList.map edg).getD k [], listed.getD m false = true) →
      Rel P nt bx base St0 w0 (mix s (fun i => (fps.getD i ([], [])).2) (fun i => listed.getD i false) ops.size) a w → wpAny P .any ops Q fuel listed a w := by
  have hD' := hD
  simp only [okD, Bool.and_eq_true, List.all_eq_true, List.mem_range, List.length_map, Array.length_toList, decide_eq_true_eq, Bool.or_eq_true, Bool.not_eq_true'] at hD'
  obtain ⟨hlen, hD'⟩ := hD'
  have hless : ∀ j, j < ops.size → ∀ k ∈ (ops.toList.map edg).getD j [], k < j := fun j hj => (hD' j hj).1
  have hcl : ∀ i j, i < j → j < ops.size → clash (fps.getD i ([], [])) (fps.getD j ([], [])) = true → ((ancs [] (ops.toList.map edg)).getD j []).contains i = true := by
    intro i j hij hj hc
    rcases (hD' j hj).2 i hij with h | h
    · rw [h] at hc; cases hc
    · exact h
  have hop : ∀ i, i < ops.size → ∃ o, ops[i]? = some o ∧ (ops.toList.map (liteO ops))[i]? = some (liteO ops o) ∧ okOp nt bx o = true := by
    intro i hi
    refine ⟨ops[i], by simp [hi], by simp [hi], ?_⟩
    rw [List.all_eq_true] at hok
    exact hok _ (by simp)
  have hloc : ∀ m, m < ops.size → ∀ q, ((fps.getD m ([], [])).2).contains q = false → s (m + 1) q = s m q := by
    intro m hm q hq
    obtain ⟨o, h1, h2, h3⟩ := hop m hm
    obtain ⟨hf, he⟩ := hs m _ h2
    obtain ⟨σ1, -, σ', rfl, -, hl⟩ := evO_elim (evO_loc (τ := s m) (fun _ _ => rfl) hf he)
    exact hl q hq
  have htf : ∀ {listed : Array Bool} {j : Nat}, listed.size = ops.size → j < ops.size → listed.getD j true = listed.getD j false := by
    intro listed j hsz hj
    simp only [Array.getD_eq_getD_getElem?]
    rw [Array.getElem?_eq_getElem (by omega)]; rfl
  have hall : ∀ listed : Array Bool, listed.size = ops.size → Region.ready .any ops listed = [] → ∀ j, j < ops.size → listed.getD j false = true := by
    intro listed hsz hr j
    induction j using Nat.strongRecOn with
    | _ j ihj =>
      intro hj
      cases hx : listed.getD j false
      · exfalso
        obtain ⟨o, h1, h2, h3⟩ := hop j hj
        have : j ∈ Region.ready .any ops listed := by
          rw [mem_ready]
          refine ⟨by rw [htf hsz hj]; exact hx, o, h1, fun e he hb => ?_⟩
          have hm : e.on ∈ (ops.toList.map edg).getD j [] := by
            rw [edg_at h1]
            exact List.mem_map_of_mem (List.mem_filter.2 ⟨by simpa using he, hb⟩)
          have := hless j hj _ hm
          exact ihj _ this (by omega)
        rw [hr] at this
        simp at this
      · rfl
  have hend : ∀ listed : Array Bool, (∀ j, j < ops.size → listed.getD j false = true) → mix s (fun i => (fps.getD i ([], [])).2) (fun i => listed.getD i false) ops.size = s ops.size := fun listed h => by
    funext q
    exact mix_at (n := ops.size) hloc (Nat.le_refl _) (fun j hj _ => h j hj)
  have hnil : ∀ listed : Array Bool, listed.size = ops.size → (∀ j, j < ops.size → listed.getD j false = true) → Region.ready .any ops listed = [] := by
    intro listed hsz h
    rw [List.eq_nil_iff_forall_not_mem]
    intro j hj
    rw [mem_ready] at hj
    obtain ⟨h0, o, ho, _⟩ := hj
    have hlt : j < ops.size := (Array.getElem?_eq_some_iff.1 ho).1
    rw [htf hsz hlt, h j hlt] at h0
    cases h0
  intro fuel
  induction fuel with
  | zero =>
    intro listed a w hsz hcnt hclo hr
    have hl : ∀ j, j < ops.size → listed.getD j false = true := by
      intro j hj
      have h0 := List.countP_eq_zero.1 (Nat.le_zero.1 hcnt) j (List.mem_range.2 hj)
      simpa using h0
    refine ⟨hnil listed hsz hl, hQ a w ?_⟩
    rw [hend listed hl] at hr
    exact hr
  | succ fuel ih =>
    intro listed a w hsz hcnt hclo hr
    refine ⟨fun h0 => hQ a w (by rw [hend listed (hall listed hsz h0)] at hr; exact hr), fun i hi => ?_⟩
    rw [mem_ready] at hi
    obtain ⟨h0, o, ho, hedge⟩ := hi
    have hlt : i < ops.size := (Array.getElem?_eq_some_iff.1 ho).1
    rw [htf hsz hlt] at h0
    obtain ⟨o', h1, h2, h3⟩ := hop i hlt
    rw [ho] at h1
    simp only [Option.some.injEq] at h1
    subst h1
    obtain ⟨hf, he⟩ := hs i _ h2
    have hes : ∀ k ∈ (ops.toList.map edg).getD i [], listed.getD k false = true := by
      intro k hk
      rw [edg_at ho] at hk
      obtain ⟨e, he, rfl⟩ := List.mem_map.1 hk
      rw [List.mem_filter] at he
      exact hedge e (by simpa using he.1) he.2
    have hanc : ∀ j, (∀ k ∈ (ops.toList.map edg).getD j [], listed.getD k false = true) → ∀ m ∈ (ancs [] (ops.toList.map edg)).getD j [], listed.getD m false = true :=
      ancs_in (X := fun k => listed.getD k false = true) hclo _ [] [] rfl rfl (fun j _ m hm => by simp at hm)
    have hbef : ∀ m, m < i → clash (fps.getD m ([], [])) (fps.getD i ([], [])) = true → listed.getD m false = true := fun m hm hc => hanc i hes m (by simpa using hcl m i hm hlt hc)
    have haft : ∀ m, i < m → m < ops.size → clash (fps.getD i ([], [])) (fps.getD m ([], [])) = true → listed.getD m false = false := by
      intro m hm hmn hc
      cases hx : listed.getD m false
      · rfl
      · have := hanc m (hclo m hx) i (by simpa using hcl i m hm hmn hc)
        rw [h0] at this; cases this
    have hag : Agrees (fps.getD i ([], [])).1 (s i) (mix s (fun i => (fps.getD i ([], [])).2) (fun i => listed.getD i false) ops.size) := by
      intro q hq
      rw [mix_stay (m := i) (by omega) (fun j h1 h2 hx => ?_)]
      · exact mix_at (n := ops.size) hloc (by omega) (fun j hj hw => hbef j hj (by simp only [clash, meets_of hw hq, Bool.true_or]))
      · rcases Nat.lt_or_ge i j with hij | hij
        · cases hw : ((fps.getD j ([], [])).2).contains q
          · rfl
          · rw [haft j hij h2 (by simp only [clash, meets_of hq hw, Bool.or_true])] at hx; cases hx
        · have : j = i := by omega
          subst this
          rw [h0] at hx; cases hx
    have hAo : okA bx cns (liteO ops o) = true := List.all_eq_true.1 hA _ (List.mem_of_getElem? h2)
    have hst := evO_sound (nt := nt) (bx := bx) htb h3 hAo (evO_loc hag hf he) base St0 w0 a w Q hr
    have hnext : ∀ a' w', (∃ σ', Loc (fps.getD i ([], [])).2 (s i) (mix s (fun i => (fps.getD i ([], [])).2) (fun i => listed.getD i false) ops.size) (fun σ' => σ' = s (i + 1)) σ' ∧ Rel P nt bx base St0 w0 σ' a' w') →
        wpAny P .any ops Q fuel (listed.setIfInBounds i true) a' w' := by
      rintro a' w' ⟨σ', ⟨σ1, rfl, rfl, -⟩, hr'⟩
      have hX' : ∀ j, (listed.setIfInBounds i true).getD j false = (listed.getD j false || j == i) := fun j => getD_set (by omega)
      refine ih _ a' w' (by simp [hsz]) ?_ ?_ ?_
      · have : (List.range ops.size).countP (fun j => !(listed.setIfInBounds i true).getD j false) < (List.range ops.size).countP (fun j => !listed.getD j false) := by
          refine countP_less (fun j hj => ?_) (x := i) (List.mem_range.2 hlt) (by simp only [h0]; rfl) (by rw [hX']; simp)
          rw [hX'] at hj
          revert hj
          cases listed.getD j false <;> simp
        omega
      · intro k hk m hm
        rw [hX'] at hk
        rw [hX']
        rw [Bool.or_eq_true] at hk
        rcases hk with hk | hk
        · rw [hclo k hk m hm]; rfl
        · have : k = i := by simpa using hk
          subst this
          rw [hes m hm]; rfl
      · rw [mix_set (X := fun j => listed.getD j false) hlt (fun j q h1 h2 hw hwj => haft j h1 h2 (by simp only [clash, meets_of hw hwj, Bool.or_true, Bool.true_or])) _ hX']
        exact hr'
    unfold wpOp
    rw [ho]
    simp only
    split
    · rename_i hw
      rw [if_pos hw] at hst
      exact .inl (Oper.wp_mono hnext hst)
    · rename_i hw
      rw [if_neg hw] at hst
      exact hnext _ _ hst
theorem ls_drw (htb : TbOk P tb) (hm : P.follows .mixedOrders = true) {fps : List (List Nat × List Nat)} {es : List (List Nat)} {ops : List LO} {Q : Exit → PS → Prop} (hD : (okD fps es && okF cns fps ops) = true) (h : evD P tb cns fps ops σ (Q .normal)) : LS P nt bx (.drw cns fps es ops) σ Q := by
  intro c hc hok hL
  cases c <;> first | cases hc | skip
  rename_i id ops' d
  simp only [liteC, erC] at hc
  split at hc
  · rename_i hd
    simp only [LC.drw.injEq, true_and] at hc
    subst hd
    obtain ⟨rfl, rfl⟩ := hc
    intro base St0 w0 a w hr
    rw [Bool.and_eq_true] at hD
    obtain ⟨s, s0, sk, hs⟩ := evD_run hD.2 h
    refine wp_region_any hm (drw_any htb hok hL hD.1 hs (fun a' w' hr' => ⟨_, by simpa using sk, hr'⟩) _ _ a _ (by simp) ?_ (fun k hk => ?_) ?_)
    · have := List.countP_le_length (p := fun i => !(Array.replicate ops'.size false).getD i false) (l := List.range ops'.size)
      simpa using this
    · exfalso
      simp [Array.getElem?_replicate] at hk
      split at hk <;> simp at hk
    · have : mix s (fun i => (fps.getD i ([], [])).2) (fun i => (Array.replicate ops'.size false).getD i false) ops'.size = s 0 := by
        funext q
        refine mix_stay (m := 0) (by omega) (fun j _ hj hx => ?_)
        exfalso
        simp [hj] at hx
      rw [this, s0]
      exact rel_drawn hr
  · cases hc
end
section
variable {P : Program} {nt : Nat} {bx : List Nat} {σ : PS} {Q : Exit → PS → Prop} {tb : Tb}
/-- a loop with a test at its head -/
theorem ls_while (htb : TbOk P tb) {a b : Nat} {D c1 : List Nat} {test : List LO} {t : Nat} {body : LC} (I : Nat → PS → Prop) (m0 : Nat) (h0 : I m0 (kill D σ))
    (hI : ∀ m σ, I m σ → evS P tb c1 test σ (fun σ1 => ∃ c, σ1 t = .bool c ∧
      (c = true → LS P nt bx body σ1 (blockQ b (thenQ (fun σ2 => ∃ m', m' < m ∧ I m' (kill D σ2)) (blockQ a Q)))) ∧ (c = false → Q .normal σ1))) :
    LS P nt bx (.blk a (.loop D (.seq (.seq (.rgn c1 test) (.cond (.tmp t) .skip (.exit a))) (.blk b body)))) σ Q := by
  refine ls_blk (ls_loopN I m0 h0 ?_)
  intro m σ hi
  refine ls_seq (ls_seq (ls_rgn htb ?_))
  refine evS_mono ?_ (hI m σ hi)
  rintro σ1 ⟨c, ht, hlt, heq⟩
  refine ls_cond (b := c) ht (fun hd => ls_skip ?_) (fun hd => ls_exit ?_)
  · exact ls_blk (hlt hd)
  · simp only [thenQ, blockQ, if_true]
    exact heq hd
/-- a loop that counts from 0 up to n, written with for -/
theorem ls_forC (htb : TbOk P tb) {a b : Nat} {D c1 c2 : List Nat} {test step : List LO} {t : Nat} {body : LC} (n : Nat) (I : Nat → PS → Prop) (h0 : I 0 (kill D σ))
    (hI : ∀ k σ, k ≤ n → I k σ → evS P tb c1 test σ (fun σ1 => σ1 t = .bool (decide ((k : Int) < (n : Int))) ∧
      (k < n → LS P nt bx body σ1 (blockQ b (thenQ (fun σ2 => evS P tb c2 step σ2 (fun σ3 => I (k + 1) (kill D σ3))) (blockQ a Q)))) ∧ (k = n → Q .normal σ1))) :
    LS P nt bx (.blk a (.loop D (.seq (.seq (.rgn c1 test) (.cond (.tmp t) .skip (.exit a))) (.seq (.blk b body) (.rgn c2 step))))) σ Q := by
  refine ls_blk (ls_loopN (fun m σ => ∃ k, k ≤ n ∧ m = n - k ∧ I k σ) n ⟨0, by omega, by omega, h0⟩ ?_)
  rintro m σ ⟨k, hk, rfl, hi⟩
  refine ls_seq (ls_seq (ls_rgn htb ?_))
  refine evS_mono ?_ (hI k σ hk hi)
  rintro σ1 ⟨ht, hlt, heq⟩
  refine ls_cond (b := decide ((k : Int) < (n : Int))) ht (fun hd => ls_skip ?_) (fun hd => ls_exit ?_)
  · have hkn : k < n := by simp at hd; omega
    refine ls_seq (ls_blk (ls_mono (hlt hkn) ?_))
    intro e σ2 hq
    have key : evS P tb c2 step σ2 (fun σ3 => I (k + 1) (kill D σ3)) → LS P nt bx (.rgn c2 step) σ2 (thenQ (fun σ' => ∃ m', m' < n - k ∧ ∃ k', k' ≤ n ∧ m' = n - k' ∧ I k' (kill D σ')) (blockQ a Q)) := fun h =>
      ls_rgn htb (evS_mono (fun σ3 h3 => ⟨n - (k + 1), by omega, k + 1, by omega, rfl, h3⟩) h)
    cases e with
    | normal => exact key hq
    | exit id =>
      simp only [blockQ] at hq ⊢
      split at hq
      · rename_i e; rw [if_pos e]; exact key hq
      · rename_i e; rw [if_neg e]; exact hq
    | goto l => exact hq
    | ret => exact hq
    | panic c => exact hq
    | outgrown => exact hq
  · have hkn : k = n := by simp at hd; omega
    simp only [thenQ, blockQ, if_true]
    exact heq hkn
end
end Go.Proofs.Ytkmkbpphdalgoaa
