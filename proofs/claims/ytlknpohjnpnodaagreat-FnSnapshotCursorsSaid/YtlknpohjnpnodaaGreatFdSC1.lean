/-
 Finding a relation, and when a dependency is valid: the reference and the program agree. On the printed functions; conditions: lengths.
-/
import Derived.Test.YtlknpohjnpnodaaGreatVaSC1
namespace Go.Proofs.YtlknpohjnpnodaaGreat
open Go.RowKit
set_option linter.unusedSimpArgs false
theorem Gj {α β : Type} {a : List α} {h : α -> β} {B : (List β × Int -> Option (List β)) -> List β × Int -> Option (List β)} (hl : a.length <= lim)
  (h1 : ∀ k (hk : k < a.length), ∀ rec, B rec ((a.take k).map h, (k : Int)) = rec ((a.take k).map h ++ [h a[k]], ((k + 1 : Nat) : Int))) (h2 : ∀ rec y, B rec (y, (a.length : Int)) = some y) : Ai B fz ([], 0) = some (a.map h) := by
 have := BJ (body := B) (out := a.map h) (fun k => ((a.take k).map h, (k : Int))) a.length (fun k hk rec => by
  rw [h1 k hk, List.take_succ_eq_append_getElem hk, List.map_append]; rfl) (fun rec => by rw [h2, List.take_length]) fz (G0 hl)
 simpa using this
theorem LK {α O : Type} {a : List α} {B : (Int -> Option (Sum Unit O)) -> Int -> Option (Sum Unit O)} (p : α -> Bool) (g : α -> O) (hl : a.length <= lim)
  (h1 : ∀ k (hk : k < a.length), ∀ rec, B rec (k : Int) = cond (p a[k]) (some (.inr (g a[k]))) (rec ((k + 1 : Nat) : Int))) (h2 : ∀ rec, B rec (a.length : Int) = some (.inl ())) :
  Ai B fz 0 = some (match a.find? p with | some e => .inr (g e) | none => .inl ()) := by
 have key : ∀ d k, k + d = a.length -> ∀ m, d < m -> Ai B m (k : Int) = some (match (a.drop k).find? p with | some e => .inr (g e) | none => .inl ()) := by
  intro d
  induction d with
  | zero =>
   intro k hk m hm
   cases m with
   | zero => omega
   | succ m =>
    show B (Ai B m) (k : Int) = _
    rw [show k = a.length by omega, h2, List.drop_length]; rfl
  | succ d ih =>
   intro k hk m hm
   cases m with
   | zero => omega
   | succ m =>
    have hlt : k < a.length := by omega
    show B (Ai B m) (k : Int) = _
    rw [h1 k hlt, List.drop_eq_getElem_cons hlt, List.find?_cons]
    cases hp : p a[k] with
    | true => rfl
    | false => exact ih (k + 1) (by omega) m (by omega)
 have := key a.length 0 (by omega) fz (G0 hl)
 simpa using this
theorem ST {r : Int × List (List Int)} (h : Bk r.2) : GK r = some r := by
 unfold GK
 rw [Gj (a := r.2) (h := id) h.1 (fun k hk rec => by
  have hr := h.2 _ (List.getElem_mem hk)
  unfold H4
  simp only
  rw [AC hk, Ak hk, AH hk (Ax h.1)]
  simp only [cond_true, Ad]
  rw [Am (by simpa using hr), Am (by simp only [List.length_map, List.length_take, List.length_singleton]; unfold lim at *; have := h.1; unfold lim at this; omega)]
  simp) (fun rec y => by unfold H4; simp only; rw [Ay]; rfl)]
 simp [Ad]
theorem Jq {l : List Int} (h : l.length <= lim) : BG l = some l := by
 unfold BG
 rw [Am (by simpa using h)]; simp
theorem Ry {l : List (List Int)} (h : Bk l) : FN l = some l := by
 unfold FN
 rw [Gj (a := l) (h := id) h.1 (fun k hk rec => by
  have hr := h.2 _ (List.getElem_mem hk)
  unfold Hk
  simp only
  rw [AC hk, Ak hk, AH hk (Ax h.1)]
  simp only [cond_true, Ad, Jq hr]
  rw [Am (by simp only [List.length_map, List.length_take, List.length_singleton]; unfold lim at *; have := h.1; unfold lim at this; omega)]
  simp) (fun rec y => by unfold Hk; simp only; rw [Ay]; rfl)]
 simp [Ad]
theorem UD {r : Int × List (List Int)} (h : Bk r.2) : Dn r = some r := by
 unfold Dn
 simp [Ry h, Ad]
def Cz (d : List Tbl) (nm : List UInt8) : (Int × List (List Int)) × Bool := if dbB d = true then (match d.find? (fun t => t.1 == nm) with | some t => (t.2, true) | none => ((0, []), false)) else ((0, []), false)
theorem QS {d : List Tbl} (h : Kb d) (nm : List UInt8) : Br d nm = some (Cz d nm) := by
 unfold Br Cz
 cases hd : dbB d with
 | true =>
  rw [LK (a := d) (fun t => t.1 == nm) (fun t => (t.2, true)) h.1 (fun k hk rec => by
   have hr := h.2 _ (List.getElem_mem hk)
   unfold BF
   rw [AC hk, Ak hk, AH hk (Ax h.1), ak h, hd]
   simp only [cond_true, Ad, ST hr.2]) (fun rec => by unfold BF; rw [Ay]; rfl)]
  simp only [Ad, if_true]
  cases d.find? (fun t => t.1 == nm) <;> rfl
 | false =>
  have : Ai (BF d nm) fz 0 = some (.inl ()) := by
   refine BJ (body := BF d nm) (fun _ => 0) 0 (fun k hk => absurd hk (by omega)) (fun rec => ?_) fz (by unfold fz; omega)
   unfold BF
   rw [ak h, hd]
   cases decide ((0 : Int) < (d.length : Int)) <;> rfl
  rw [this]; rfl
theorem Sh {d : List Tbl} (h : Kb d) (nm : List UInt8) : BM d nm = some (Cz d nm) := by
 unfold BM C5 Cz
 simp only [br h, Ad]
 cases hd : dbB d with
 | true =>
  rw [LK (a := d) (fun t => t.1 == nm) (fun t => (t.2, true)) h.1 (fun k hk rec => by
   have hr := h.2 _ (List.getElem_mem hk)
   unfold EH
   rw [AC hk, Ak hk, AH hk (Ax h.1)]
   simp only [cond_true, Ad, UD hr.2]) (fun rec => by unfold EH; rw [Ay]; rfl)]
  simp only [cond_true, if_true]
  cases d.find? (fun t => t.1 == nm) <;> rfl
 | false => rfl
def HI (l : List Int) (k : Nat) (e : Int) : Bool := decide (0 < k) && atB l (k - 1) fun q => decide (e <= q)
theorem DP {S O : Type} (body : (S -> Option O) -> S -> Option O) (n : Nat) (s : S) : Ai body (n + 1) s = body (Ai body n) s := rfl
def Mm (l : List Int) (rec : Int -> Option (Sum Unit Bool)) (i : Int) : Option (Sum Unit Bool) := if i = 0 then (if l.length = 0 then some (.inl ()) else rec 1) else Au l rec i
theorem ia {l : List Int} (h : l.length <= lim) : Ct l = some (!AI l (HI l)) := by
 unfold Ct AI
 have hB : Ai (Au l) fz 1 = some (cond ((List.range l.length).any fun k => atB l k (HI l k)) (.inr false) (.inl ())) := by
  have h0 := OO (M := fz + 1) (B := Mm l) (fun k => atB l k (HI l k)) (Nat.lt_succ_of_lt (G0 h)) (fun k hk rec => by
   by_cases hz : k = 0
   ·subst hz
    rw [AY hk]
    unfold Mm
    rw [if_pos (show ((0 : Nat) : Int) = 0 from rfl), if_neg (by omega)]
    simp [HI]
   ·have hk' : k - 1 < l.length := by omega
    have hz' : ¬ ((k : Int) = 0) := by omega
    unfold Mm
    rw [if_neg hz']
    unfold Au
    rw [AC hk, Ak hk, AH hk (Ax h), Q7 hk (by omega) (Ax h), Ak hk', AY hk]
    simp only [cond_true, Ad, HI]
    rw [AY hk', decide_eq_true (by omega : 0 < k)]
    simp only [Bool.true_and]) (fun rec => by
   by_cases hz : l.length = 0
   ·unfold Mm; rw [hz]; rfl
   ·have hz' : ¬ ((l.length : Int) = 0) := by omega
    unfold Mm
    rw [if_neg hz']
    unfold Au
    rw [Ay]; rfl)
  have same : ∀ m (k : Nat), 0 < k -> Ai (Mm l) m (k : Int) = Ai (Au l) m (k : Int) := by
   intro m
   induction m with
   | zero => intro k _; rfl
   | succ m ih =>
    intro k hk
    have hz : ¬ ((k : Int) = 0) := by omega
    have ea : ∀ rec, Mm l rec (k : Int) = Au l rec (k : Int) := fun rec => by unfold Mm; rw [if_neg hz]
    show Mm l (Ai (Mm l) m) (k : Int) = Au l (Ai (Au l) m) (k : Int)
    rw [ea]
    have e : ∀ rec, Au l rec (k : Int) = cond (decide ((k : Int) < (List.length l : Int))) (Ad (AA l (IntKind.i64.wrap ((k : Int) - 1))) fun e5 => Ad (AA l (k : Int)) fun e7 => cond (decide (e7 <= e5)) (some (.inr false)) (rec (IntKind.i64.wrap ((k : Int) + 1)))) (some (.inl ())) := fun rec => rfl
    rw [e, e]
    by_cases q : k < l.length
    ·rw [AH q (Ax h), ih (k + 1) (by omega)]
    ·rw [decide_eq_false (by omega : ¬ (k : Int) < (l.length : Int))]; rfl
  by_cases hz : l.length = 0
  ·have e1 : (List.range l.length).any (fun k => atB l k (HI l k)) = false := by rw [hz]; rfl
   rw [e1]
   refine BJ (body := Au l) (fun _ => 1) 0 (fun k hk => absurd hk (by omega)) (fun rec => ?_) fz (by unfold fz; omega)
   unfold Au
   rw [hz]; rfl
  ·have h2 : Ai (Mm l) (fz + 1) 0 = Ai (Au l) fz ((1 : Nat) : Int) := by
    have e0 : ∀ rec, Mm l rec 0 = rec 1 := fun rec => by unfold Mm; rw [if_pos rfl, if_neg hz]
    rw [DP, e0]
    exact same fz 1 (by omega)
   rw [h2] at h0
   exact h0
 rw [hB]
 cases (List.range l.length).any fun k => atB l k (HI l k) <;> rfl
end Go.Proofs.YtlknpohjnpnodaaGreat
