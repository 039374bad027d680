/-
  The closure of variables: it grows with its variables, a second time it adds nothing, and a principle of induction. Plain lists; no conditions.
-/
import Derived.Test.YtcoalfphehhadaaFbFB1
-- pure
namespace Go.Proofs.Ytcoalfphehhadaa
open Go.RowKit
set_option linter.unusedVariables false
set_option linter.unusedSimpArgs false
def bitv (b0 b1 b2 b3 b4 : Bool) : Nat → Bool
  | 0 => b0
  | 1 => b1
  | 2 => b2
  | 3 => b3
  | _ => b4
def sh5 (b0 b1 b2 b3 b4 : Bool) (e : Nat) : Bool := (andI (shrI (cond b0 1 0 + (cond b1 2 0 + (cond b2 4 0 + (cond b3 8 0 + cond b4 16 0)))) (e : Int)) 1 == 1) == bitv b0 b1 b2 b3 b4 e
theorem sh5_all : (List.range 5).all (fun e => allB fun b0 => allB fun b1 => allB fun b2 => allB fun b3 => allB fun b4 => sh5 b0 b1 b2 b3 b4 e) = true := by kernel_rfl
theorem sel_bit (b : Nat → Bool) {e : Nat} (he : e < 5) : (andI (shrI (mk5 b) (e : Int)) 1 == 1) = b e := by
  have h := List.all_eq_true.1 sh5_all e (List.mem_range.2 he)
  have h2 := eq_of_beq (allB_ok (allB_ok (allB_ok (allB_ok (allB_ok h (b 0)) (b 1)) (b 2)) (b 3)) (b 4))
  refine Eq.trans h2 ?_
  match e, he with
  | 0, _ => rfl
  | 1, _ => rfl
  | 2, _ => rfl
  | 3, _ => rfl
  | 4, _ => rfl
def an5 (a0 a1 a2 a3 a4 b0 b1 b2 b3 b4 : Bool) : Bool := (andNotI (cond a0 1 0 + (cond a1 2 0 + (cond a2 4 0 + (cond a3 8 0 + cond a4 16 0)))) (cond b0 1 0 + (cond b1 2 0 + (cond b2 4 0 + (cond b3 8 0 + cond b4 16 0)))) == 0) == ((!a0 || b0) && ((!a1 || b1) && ((!a2 || b2) && ((!a3 || b3) && (!a4 || b4)))))
theorem an5_all : (allB fun a0 => allB fun a1 => allB fun a2 => allB fun a3 => allB fun a4 => allB fun b0 => allB fun b1 => allB fun b2 => allB fun b3 => allB fun b4 => an5 a0 a1 a2 a3 a4 b0 b1 b2 b3 b4) = true := by kernel_rfl
theorem imp_b (x y : Bool) : (!x || y) = true ↔ (x = true → y = true) := by cases x <;> cases y <;> simp
theorem sub_iff (a b : Nat → Bool) : (andNotI (mk5 a) (mk5 b) == 0) = true ↔ ∀ v, v < 5 → a v = true → b v = true := by
  have h := eq_of_beq (allB_ok (allB_ok (allB_ok (allB_ok (allB_ok (allB_ok (allB_ok (allB_ok (allB_ok (allB_ok an5_all (a 0)) (a 1)) (a 2)) (a 3)) (a 4)) (b 0)) (b 1)) (b 2)) (b 3)) (b 4))
  have h : (andNotI (mk5 a) (mk5 b) == 0) = ((!a 0 || b 0) && ((!a 1 || b 1) && ((!a 2 || b 2) && ((!a 3 || b 3) && (!a 4 || b 4))))) := h
  rw [h, Bool.and_eq_true, Bool.and_eq_true, Bool.and_eq_true, Bool.and_eq_true, imp_b, imp_b, imp_b, imp_b, imp_b]
  constructor
  · rintro ⟨h0, h1, h2, h3, h4⟩ v hv
    match v, hv with
    | 0, _ => exact h0
    | 1, _ => exact h1
    | 2, _ => exact h2
    | 3, _ => exact h3
    | 4, _ => exact h4
  · intro h
    exact ⟨h 0 (by omega), h 1 (by omega), h 2 (by omega), h 3 (by omega), h 4 (by omega)⟩
theorem ones_mk (b : Nat → Bool) {k : Nat} (hk : k ≤ 5) : onesK (mk5 b) k = ascN k b := by
  unfold onesK ascN
  congr 1
  apply List.filter_congr
  intro v hv
  have := List.mem_range.1 hv
  exact sel_bit b (by omega)
/-! ### growing sets -/
def gr (b : Nat → Bool) (p : Int × Int) : Nat → Bool := if (decide (0 ≤ p.2) && (andNotI p.1 (mk5 b) == 0)) = true then (fun v => b v || v == p.2.toNat) else b
def RB (P : List (Int × Int)) (b : Nat → Bool) : Nat → Bool := P.foldl gr b
def itR (P : List (Int × Int)) : Nat → (Nat → Bool) → Nat → Bool
  | 0, b => b
  | n + 1, b => RB P (itR P n b)
def leS (b c : Nat → Bool) : Prop := ∀ v, b v = true → c v = true
def inS (V : Nat) (b : Nat → Bool) : Prop := ∀ v, b v = true → v < V
/-- pairs of a mask and a variable below V -/
def PrOk (V : Nat) (P : List (Int × Int)) : Prop := ∀ p ∈ P, (∃ g, p.1 = mk5 g) ∧ (0 ≤ p.2 → p.2.toNat < V)
theorem gr_le (b : Nat → Bool) (p : Int × Int) : leS b (gr b p) := by
  intro v hv
  unfold gr
  split
  · show (b v || _) = true
    rw [hv]; rfl
  · exact hv
theorem RB_le : ∀ (P : List (Int × Int)) (b : Nat → Bool), leS b (RB P b)
  | [], b => fun v hv => hv
  | p :: P, b => fun v hv => RB_le P (gr b p) v (gr_le b p v hv)
theorem it_le (P : List (Int × Int)) : ∀ (n : Nat) (b : Nat → Bool), leS b (itR P n b)
  | 0, b => fun v hv => hv
  | n + 1, b => fun v hv => RB_le P _ v (it_le P n b v hv)
theorem gr_mono {b c : Nat → Bool} {p : Int × Int} (hp : ∃ g, p.1 = mk5 g) (h : leS b c) : leS (gr b p) (gr c p) := by
  intro v hv
  obtain ⟨g, hg⟩ := hp
  unfold gr at hv
  split at hv
  · rename_i hb
    rw [Bool.and_eq_true, hg, sub_iff] at hb
    have hc : (decide (0 ≤ p.2) && (andNotI p.1 (mk5 c) == 0)) = true := by
      rw [Bool.and_eq_true, hg, sub_iff]
      exact ⟨hb.1, fun u hu hgu => h u (hb.2 u hu hgu)⟩
    unfold gr
    rw [if_pos hc]
    show (c v || v == p.2.toNat) = true
    have hv : (b v || v == p.2.toNat) = true := hv
    rw [Bool.or_eq_true] at hv ⊢
    rcases hv with hv | hv
    · exact .inl (h v hv)
    · exact .inr hv
  · exact gr_le c p v (h v hv)
theorem RB_mono {V : Nat} : ∀ {P : List (Int × Int)} {b c : Nat → Bool}, PrOk V P → leS b c → leS (RB P b) (RB P c)
  | [], b, c, _, h => h
  | p :: P, b, c, hP, h => RB_mono (P := P) (fun x hx => hP x (List.mem_cons_of_mem _ hx)) (gr_mono (hP p (List.mem_cons_self ..)).1 h)
theorem it_mono {V : Nat} {P : List (Int × Int)} (hP : PrOk V P) {b c : Nat → Bool} (h : leS b c) : ∀ n, leS (itR P n b) (itR P n c)
  | 0 => h
  | n + 1 => RB_mono hP (it_mono hP h n)
theorem gr_in {V : Nat} {b : Nat → Bool} {p : Int × Int} (hp : 0 ≤ p.2 → p.2.toNat < V) (h : inS V b) : inS V (gr b p) := by
  intro v hv
  unfold gr at hv
  split at hv
  · rename_i hb
    rw [Bool.and_eq_true] at hb
    have hv : (b v || v == p.2.toNat) = true := hv
    rw [Bool.or_eq_true] at hv
    rcases hv with hv | hv
    · exact h v hv
    · rw [eq_of_beq hv]; exact hp (of_decide_eq_true hb.1)
  · exact h v hv
theorem RB_in {V : Nat} : ∀ {P : List (Int × Int)} {b : Nat → Bool}, PrOk V P → inS V b → inS V (RB P b)
  | [], b, _, h => h
  | p :: P, b, hP, h => RB_in (P := P) (fun x hx => hP x (List.mem_cons_of_mem _ hx)) (gr_in (hP p (List.mem_cons_self ..)).2 h)
theorem it_in {V : Nat} {P : List (Int × Int)} (hP : PrOk V P) {b : Nat → Bool} (h : inS V b) : ∀ n, inS V (itR P n b)
  | 0 => h
  | n + 1 => RB_in hP (it_in hP h n)
theorem cnt_le {b c : Nat → Bool} (h : leS b c) : ∀ l : List Nat, l.countP b ≤ l.countP c ∧ ∀ v ∈ l, c v = true → b v = false → l.countP b < l.countP c
  | [] => ⟨Nat.le_refl _, fun v hv => by cases hv⟩
  | x :: l => by
    obtain ⟨h1, h2⟩ := cnt_le h l
    rw [List.countP_cons, List.countP_cons]
    have hx : (if b x = true then 1 else 0) ≤ (if c x = true then 1 else 0) := by
      split
      · rename_i hb; rw [if_pos (h x hb)]; exact Nat.le_refl _
      · exact Nat.zero_le _
    refine ⟨by omega, fun v hv hc hb => ?_⟩
    rcases List.mem_cons.1 hv with rfl | hv
    · rw [if_pos hc, if_neg (by rw [hb]; simp)]; omega
    · have := h2 v hv hc hb; omega
theorem eq_of_le {b c : Nat → Bool} (h1 : leS b c) (h2 : leS c b) : b = c := by
  funext v
  rw [Bool.eq_iff_iff]
  exact ⟨h1 v, h2 v⟩
theorem it_fix {V : Nat} {P : List (Int × Int)} (hP : PrOk V P) {b : Nat → Bool} (h : inS V b) : RB P (itR P V b) = itR P V b := by
  have key : ∀ n, RB P (itR P n b) = itR P n b ∨ n ≤ (List.range V).countP (itR P n b) := by
    intro n
    induction n with
    | zero => exact .inr (Nat.zero_le _)
    | succ n ih =>
      rcases ih with ih | ih
      · left
        show RB P (RB P (itR P n b)) = RB P (itR P n b)
        rw [ih, ih]
      · by_cases he : RB P (itR P n b) = itR P n b
        · left
          show RB P (RB P (itR P n b)) = RB P (itR P n b)
          rw [he, he]
        · right
          have hle := RB_le P (itR P n b)
          have : ∃ v, RB P (itR P n b) v = true ∧ itR P n b v = false := by
            refine Classical.byContradiction fun hc => he (eq_of_le (fun v hv => ?_) hle)
            cases hb : itR P n b v with
            | true => rfl
            | false => exact absurd ⟨v, hv, hb⟩ hc
          obtain ⟨v, h1, h2⟩ := this
          have h3 := RB_in hP (it_in hP h n) v h1
          have := (cnt_le hle (List.range V)).2 v (List.mem_range.2 h3) h1 h2
          show n + 1 ≤ (List.range V).countP (RB P (itR P n b))
          omega
  rcases key V with h1 | h1
  · exact h1
  · have hall : ∀ v ∈ List.range V, itR P V b v = true := List.countP_eq_length.1 (Nat.le_antisymm List.countP_le_length (by rw [List.length_range]; exact h1))
    exact eq_of_le (fun v hv => hall v (List.mem_range.2 (RB_in hP (it_in hP h V) v hv))) (RB_le P _)
theorem it_stay {P : List (Int × Int)} {b : Nat → Bool} (h : RB P b = b) : ∀ n, itR P n b = b
  | 0 => rfl
  | n + 1 => by show RB P (itR P n b) = b; rw [it_stay h n, h]
/-- what holds of the variables holds of the closure, if each pair hands it on -/
theorem RB_ind {A : Nat → Prop} : ∀ {P : List (Int × Int)} {b : Nat → Bool}, (∀ p ∈ P, 0 ≤ p.2 → ∀ b : Nat → Bool, (andNotI p.1 (mk5 b) == 0) = true → (∀ v, b v = true → A v) → A p.2.toNat) → (∀ v, b v = true → A v) → ∀ v, RB P b v = true → A v
  | [], b, _, h => h
  | p :: P, b, hP, h => RB_ind (P := P) (fun x hx => hP x (List.mem_cons_of_mem _ hx)) (b := gr b p) (fun v hv => by
    unfold gr at hv
    split at hv
    · rename_i hb
      rw [Bool.and_eq_true] at hb
      have hv : (b v || v == p.2.toNat) = true := hv
      rw [Bool.or_eq_true] at hv
      rcases hv with hv | hv
      · exact h v hv
      · rw [eq_of_beq hv]; exact hP p (List.mem_cons_self ..) (of_decide_eq_true hb.1) b hb.2 h
    · exact h v hv)
theorem it_ind {A : Nat → Prop} {P : List (Int × Int)} (hP : ∀ p ∈ P, 0 ≤ p.2 → ∀ b : Nat → Bool, (andNotI p.1 (mk5 b) == 0) = true → (∀ v, b v = true → A v) → A p.2.toNat) {b : Nat → Bool} (h : ∀ v, b v = true → A v) : ∀ n, ∀ v, itR P n b v = true → A v
  | 0 => h
  | n + 1 => RB_ind hP (it_ind hP h n)
/-! ### the pairs of the dependencies -/
section
variable {q : Qry} {fs : List FDep} {vs : List Int}
def gK (a : Atm) (F : List Int) : Nat → Nat → Bool
  | 0 => fun _ => false
  | k + 1 => if atB F k (inr a) = true then (fun v => gK a F k v || v == (atI a.2 (F.getD k 0)).toNat) else gK a F k
theorem col_in {a : Atm} {c : Int} (ha : AtmOk a) (h : inr a c = true) : 0 ≤ atI a.2 c ∧ atI a.2 c < 5 := by
  have h4 := inr_t ha.1 h
  unfold atI geti
  rw [if_pos h4.1, List.getElem?_eq_getElem (by omega)]
  exact ha.2 _ (List.getElem_mem _)
theorem iM_mk {a : Atm} (ha : AtmOk a) (F : List Int) : ∀ k, k ≤ F.length → iM a F k = mk5 (gK a F k)
  | 0, _ => rfl
  | k + 1, hk => by
    rw [iM, gK, iM_mk ha F k (by omega)]
    split
    · rename_i h
      rw [atB_lt (by omega)] at h
      have hc := col_in ha h
      rw [getD_lt (by omega : k < F.length)]
      obtain ⟨e, he⟩ := Int.eq_ofNat_of_zero_le hc.1
      unfold bitOf
      rw [he, or_bit _ (by omega)]
      rfl
    · rfl
theorem gK_le (a : Atm) (F : List Int) (k v : Nat) (h : gK a F k v = true) : gK a F (k + 1) v = true := by
  rw [gK]
  split
  · show (gK a F k v || _) = true
    rw [h]; rfl
  · exact h
theorem gK_mem {a : Atm} {F : List Int} (hf : F.all (inr a) = true) : ∀ k, k ≤ F.length → ∀ i (hi : i < F.length), i < k → gK a F k (atI a.2 F[i]).toNat = true
  | 0, _, i, hi, h => absurd h (by omega)
  | k + 1, hk, i, hi, h => by
    rcases Nat.lt_or_ge i k with h1 | h1
    · exact gK_le a F k _ (gK_mem hf k (by omega) i hi h1)
    · have e : i = k := by omega
      subst e
      rw [gK, if_pos (by rw [atB_lt hi]; exact List.all_eq_true.1 hf _ (List.getElem_mem hi)), getD_lt hi]
      show (_ || (atI a.2 F[i]).toNat == (atI a.2 F[i]).toNat) = true
      simp
theorem fd_cases (f : FDep) (a : Atm) : (fitK ((a.1 == f.1) && inr a f.2.2) a f.2.1 f.2.1.length = true ∧ fdv f a = (iM a f.2.1 f.2.1.length, atI a.2 f.2.2)) ∨ fdv f a = (0, -1) := by
  unfold fdv
  split
  · rename_i h; exact .inl ⟨h, rfl⟩
  · exact .inr rfl
theorem fit_all {f : FDep} {a : Atm} (h : fitK ((a.1 == f.1) && inr a f.2.2) a f.2.1 f.2.1.length = true) : a.1 = f.1 ∧ inr a f.2.2 = true ∧ f.2.1.all (inr a) = true := by
  unfold fitK at h
  rw [Bool.and_eq_true, Bool.and_eq_true, List.take_length] at h
  exact ⟨eq_of_beq h.1.1, h.1.2, h.2⟩
theorem atm_ok (hq : qryB q = true) {a : Atm} (ha : a ∈ q.2.1) : AtmOk a := by
  obtain ⟨h1, h2, h3, h4⟩ := qry_facts hq
  obtain ⟨g1, g2, g3⟩ := h4 a ha
  exact ⟨g2, fun v hv => by have := g3 v hv; omega⟩
theorem prs_ok (hq : qryB q = true) (fs : List FDep) : PrOk q.1.toNat (fs.flatMap (prs q)) := by
  intro p hp
  obtain ⟨f, hf, hp⟩ := List.mem_flatMap.1 hp
  unfold prs at hp
  rw [if_pos hq] at hp
  obtain ⟨a, ha, rfl⟩ := List.mem_map.1 hp
  have hok := atm_ok hq ha
  rcases fd_cases f a with ⟨h1, h2⟩ | h2
  · rw [h2]
    refine ⟨⟨_, iM_mk hok _ _ (Nat.le_refl _)⟩, fun h0 => ?_⟩
    obtain ⟨g1, g2, g3, g4⟩ := qry_facts hq
    have h4 := inr_t hok.1 (fit_all h1).2.1
    show (atI a.2 f.2.2).toNat < _
    unfold atI geti
    rw [if_pos h4.1, List.getElem?_eq_getElem (by omega)]
    have := ((g4 a ha).2.2 _ (List.getElem_mem (by omega : f.2.2.toNat < a.2.length)))
    simp only [Option.getD_some]
    omega
  · rw [h2]
    exact ⟨⟨fun _ => false, rfl⟩, fun h0 => absurd h0 (by decide)⟩
def ini (q : Qry) (vs : List Int) : Nat → Bool := fun v => decide ((v : Int) < q.1) && vs.contains (v : Int)
def clS (q : Qry) (fs : List FDep) (vs : List Int) : Nat → Bool := itR (fs.flatMap (prs q)) q.1.toNat (ini q vs)
theorem ini_in : inS q.1.toNat (ini q vs) := by
  intro v hv
  unfold ini at hv
  rw [Bool.and_eq_true] at hv
  have := of_decide_eq_true hv.1
  omega
theorem grow_mk {V : Nat} (hV : V ≤ 5) : ∀ {P : List (Int × Int)} (hP : PrOk V P) (b : Nat → Bool), P.foldl grow1 (mk5 b) = mk5 (RB P b)
  | [], _, b => rfl
  | p :: P, hP, b => by
    rw [List.foldl_cons]
    have h1 : grow1 (mk5 b) p = mk5 (gr b p) := by
      unfold grow1 gr
      split
      · rename_i h
        rw [Bool.and_eq_true] at h
        have h0 : 0 ≤ p.2 := of_decide_eq_true h.1
        have h2 := (hP p (List.mem_cons_self ..)).2 h0
        obtain ⟨e, he⟩ := Int.eq_ofNat_of_zero_le h0
        rw [he] at h2 ⊢
        rw [or_bit b (by simp at h2; omega)]
        rfl
      · rfl
    rw [h1]
    exact grow_mk hV (P := P) (fun x hx => hP x (List.mem_cons_of_mem _ hx)) (gr b p)
theorem fold_flat (q : Qry) : ∀ (fs : List FDep) (m : Int), fs.foldl (grow2 q) m = (fs.flatMap (prs q)).foldl grow1 m
  | [], m => rfl
  | f :: fs, m => by rw [List.foldl_cons, List.flatMap_cons, List.foldl_append, fold_flat q fs]; rfl
theorem grow3_mk (hq : qryB q = true) (b : Nat → Bool) : grow3 q fs (mk5 b) = mk5 (itR (fs.flatMap (prs q)) q.1.toNat b) := by
  obtain ⟨h1, h2, -⟩ := qry_facts hq
  unfold grow3
  have : ∀ n, (List.range n).foldl (fun s _ => fs.foldl (grow2 q) s) (mk5 b) = mk5 (itR (fs.flatMap (prs q)) n b) := by
    intro n
    induction n with
    | zero => rfl
    | succ n ih =>
      rw [List.range_succ, List.foldl_append, ih, List.foldl_cons, List.foldl_nil, fold_flat, grow_mk (V := q.1.toNat) (by omega) (prs_ok hq fs)]
      rfl
  exact this _
theorem clos_is (hq : qryB q = true) : closB q fs vs = ascN q.1.toNat (clS q fs vs) := by
  obtain ⟨h1, h2, -⟩ := qry_facts hq
  unfold closB clS
  rw [if_pos hq]
  have e : vs.foldl (setOf q) 0 = mk5 (ini q vs) := by
    have := fold_set (q := q) ⟨h1, h2⟩ vs (fun _ => false)
    refine Eq.trans this ?_
    exact mk5_congr fun v _ => by unfold ini; simp
  rw [e, grow3_mk hq, ones_mk _ (by omega)]
theorem asc_all {n : Nat} {S : Nat → Bool} (h : ∀ v, v < n → S v = true) : (ascN n S).length = n := by
  unfold ascN
  rw [List.length_map, List.filter_eq_self.2 (fun v hv => h v (List.mem_range.1 hv)), List.length_range]
theorem asc_len_all {n : Nat} {S : Nat → Bool} (h : (ascN n S).length = n) : ∀ v, v < n → S v = true := by
  unfold ascN at h
  rw [List.length_map] at h
  have h2 : ((List.range n).filter S).length = (List.range n).length := by rw [h, List.length_range]
  have := List.filter_eq_self.1 (List.Sublist.eq_of_length (List.filter_sublist (p := S) (l := List.range n)) h2)
  intro v hv
  exact this v (List.mem_range.2 hv)
theorem clos_idem : closB q fs (closB q fs vs) = closB q fs vs := by
  by_cases hq : qryB q = true
  · rw [clos_is (vs := closB q fs vs) hq, clos_is hq]
    congr 1
    have e : ini q (ascN q.1.toNat (clS q fs vs)) = clS q fs vs := by
      funext v
      unfold ini
      have hin : inS q.1.toNat (clS q fs vs) := it_in (prs_ok hq fs) ini_in _
      by_cases hv : v < q.1.toNat
      · rw [asc_mem hv, decide_eq_true (by omega : (v : Int) < q.1), Bool.true_and]
      · rw [decide_eq_false (by omega : ¬ (v : Int) < q.1), Bool.false_and]
        cases hc : clS q fs vs v with
        | false => rfl
        | true => exact absurd (hin v hc) hv
    show itR _ _ (ini q (ascN q.1.toNat (clS q fs vs))) = _
    rw [e]
    exact it_stay (it_fix (prs_ok hq fs) ini_in) _
  · unfold closB
    rw [if_neg hq, if_neg hq]
theorem clos_mono {ws : List Int} (h : ∀ x ∈ vs, x ∈ ws) {x : Int} (hx : x ∈ closB q fs vs) : x ∈ closB q fs ws := by
  by_cases hq : qryB q = true
  · rw [clos_is hq] at hx ⊢
    unfold ascN at hx ⊢
    rw [List.mem_map] at hx ⊢
    obtain ⟨v, hv, rfl⟩ := hx
    refine ⟨v, ?_, rfl⟩
    obtain ⟨h1, h2⟩ := List.mem_filter.1 hv
    refine List.mem_filter.2 ⟨h1, it_mono (prs_ok hq fs) (fun u hu => ?_) _ v h2⟩
    unfold ini at hu ⊢
    rw [Bool.and_eq_true] at hu ⊢
    exact ⟨hu.1, List.contains_iff_mem.2 (h _ (List.contains_iff_mem.1 hu.2))⟩
  · unfold closB at hx
    rw [if_neg hq] at hx
    cases hx
/-- the principle for the closure of a valid query -/
theorem clos_ind (hq : qryB q = true) {A : Nat → Prop} (h1 : ∀ v : Nat, (v : Int) ∈ vs → A v)
    (h2 : ∀ f ∈ fs, ∀ a ∈ q.2.1, a.1 = f.1 → inr a f.2.2 = true → f.2.1.all (inr a) = true → (∀ c ∈ f.2.1, A (atI a.2 c).toNat) → A (atI a.2 f.2.2).toNat) : ∀ v, clS q fs vs v = true → A v := by
  refine it_ind (fun p hp h0 b hb hA => ?_) (fun v hv => ?_) _
  · obtain ⟨f, hf, hp⟩ := List.mem_flatMap.1 hp
    unfold prs at hp
    rw [if_pos hq] at hp
    obtain ⟨a, ha, rfl⟩ := List.mem_map.1 hp
    have hok := atm_ok hq ha
    rcases fd_cases f a with ⟨g1, g2⟩ | g2
    · rw [g2] at hb ⊢
      obtain ⟨k1, k2, k3⟩ := fit_all g1
      have hb : (andNotI (iM a f.2.1 f.2.1.length) (mk5 b) == 0) = true := hb
      rw [iM_mk hok _ _ (Nat.le_refl _), sub_iff] at hb
      refine h2 f hf a ha k1 k2 k3 fun c hc => hA _ ?_
      obtain ⟨i, hi, rfl⟩ := List.mem_iff_getElem.1 hc
      have := col_in hok (List.all_eq_true.1 k3 _ (List.getElem_mem hi))
      exact hb _ (by omega) (gK_mem k3 _ (Nat.le_refl _) i hi hi)
    · rw [g2] at h0
      exact absurd h0 (by decide)
  · unfold ini at hv
    rw [Bool.and_eq_true] at hv
    exact h1 v (List.contains_iff_mem.1 hv.2)
theorem clos_ext (hq : qryB q = true) (h : ∀ v : Nat, (v : Int) < q.1 → (v : Int) ∈ vs) : (closB q fs vs).length = q.1.toNat := by
  rw [clos_is hq]
  refine asc_all fun v hv => it_le _ _ _ v ?_
  unfold ini
  rw [decide_eq_true (by omega : (v : Int) < q.1), Bool.true_and]
  exact List.contains_iff_mem.2 (h v (by omega))
end
end Go.Proofs.Ytcoalfphehhadaa
