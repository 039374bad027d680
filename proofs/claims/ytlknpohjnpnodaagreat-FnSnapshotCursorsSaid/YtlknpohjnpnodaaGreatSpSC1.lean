/-
 Snapshots and cursors: what the reference and the program give. On the printed functions; conditions: sizes.
-/
import Derived.Test.YtlknpohjnpnodaaGreatSqSC1
import Derived.Test.YtlknpohjnpnodaaGreatDuSC1
import Derived.Test.YtlknpohjnpnodaaGreatEnSC1
namespace Go.Proofs.YtlknpohjnpnodaaGreat
open Go.RowKit
set_option linter.unusedVariables false
set_option linter.unusedSimpArgs false
theorem O5 {α : Type} {f : α -> α -> Bool} (hf : ∀ x, f x x = true) (l : List α) : TH f l l = true := by
 unfold TH
 rw [LG (fun i hi => by rw [AY hi, hf]; rfl)]
 simp
theorem TF (r : Int × List (List Int)) : RP r r = true := by
 unfold RP VA
 rw [O5 (fun x => by simp)]
 simp
theorem Uf (d : List Tbl) : fu d d = true := by
 unfold fu
 exact O5 (fun t => by rw [TF]; simp) d
theorem Xd {h : Hst} (hs : Hw h) : Ex h h = some true := by
 unfold Ex
 have e1 : (h.1 != h.1) = false := by simp
 have e2 : ((h.2.length : Int) != (h.2.length : Int)) = false := by simp
 rw [e1, e2]
 simp only [cond_false]
 have := BJ (body := Ce h h) (out := (.inl () : Sum Unit Bool)) (fun k => (k : Int)) h.2.length (fun k hk rec => by
  unfold Ce
  rw [AC hk, Ak hk, AH hk (Ax hs.1)]
  simp only [cond_true, Ad]
  rw [el (hs.2 _ (List.getElem_mem hk)), Uf]; rfl) (fun rec => by unfold Ce; rw [Ay]; rfl) fz (G0 hs.1)
 have h2 : Ai (Ce h h) fz 0 = some (.inl ()) := this
 rw [h2]; rfl
def ocB (h : Hst) (q : Qry) (o : List Int) : Csr × Bool := cond (GZ h && (J0 (snB h (h.1 + (h.2.length : Int) - 1)).1 q && OF q o)) ((h.1 + (h.2.length : Int) - 1, o, [], q), true) ((0, [], [], (0, [], [])), false)
theorem Z4 {h : Hst} (hv : GZ h = true) : ∃ d, AA h.2 (IntKind.i64.wrap ((h.2.length : Int) - 1)) = some d ∧ snB h (h.1 + (h.2.length : Int) - 1) = (d, true) ∧ d ∈ h.2 := by
 have hf := Hu hv
 obtain ⟨d, g1, g2, g3⟩ := KR hf.1 hf.2.1
 refine ⟨d, g1, ?_, g3⟩
 unfold snB btw
 rw [hv, decide_eq_true (by omega), decide_eq_true (by omega)]
 have hk : (h.1 + (h.2.length : Int) - 1 - h.1).toNat = h.2.length - 1 := by omega
 rw [hk, <- List.getLast?_eq_getElem?, g2]
 rfl
theorem lc {h : Hst} {q : Qry} {o : List Int} (hs : Hw h) (hq : smQ q) (ho : o.length <= lim) : GE h q o = some (ocB h q o) := by
 unfold GE ocB
 simp only [SU hs, Ad]
 cases hv : GZ h with
 | false => rfl
 | true =>
  have hf := Hu hv
  have hi := PC hv
  obtain ⟨d, g1, g2, g3⟩ := Z4 hv
  simp only [Bool.not_true, cond_false, g1, g2, Yf (hs.2 d g3) hq, Bool.true_and]
  cases J0 d q with
  | false => rfl
  | true =>
   simp only [Bool.not_true, cond_false, VE hq ho, Bool.true_and]
   cases OF q o with
   | false => rfl
   | true =>
    simp only [Bool.not_true, cond_false, cond_true, List.nil_append]
    rw [Am (by simp only [List.length_nil]; omega), VC hq, wrap_in (n := h.1 + (h.2.length : Int)) (by omega), wrap_in (by omega)]
theorem jy {h : Hst} {q : Qry} {o : List Int} (hq : smQ q) (ho : o.length <= lim) : smC (ocB h q o).1 := by
 unfold ocB
 cases (GZ h && (J0 (snB h (h.1 + (h.2.length : Int) - 1)).1 q && OF q o)) with
 | false => exact ⟨Nat.zero_le _, Nat.zero_le _, Nat.zero_le _, fun a ha => (by cases ha), Nat.zero_le _⟩
 | true => exact ⟨ho, Nat.zero_le _, hq⟩
theorem Ug {l : List Csr} : ∀ (ds : List (List Tbl)) (f : Int), 0 <= f -> f + (ds.length : Int) <= 1000000 -> ∃ k : Nat, OA l ds f = (f + (k : Int), ds.drop k) ∧ (0 < ds.length -> k < ds.length) ∧ (ds.length = 0 -> k = 0) ∧ ∀ j : Nat, j < k -> YQ l (f + (j : Int)) = false
 | [], f, _, _ => ⟨0, by simp [OA], fun h => absurd h (by simp), fun _ => rfl, fun j hj => absurd hj (by omega)⟩
 | d :: ds, f, h0, h1 => by
  rw [List.length_cons] at h1
  rw [OA]
  cases hc : ds.isEmpty || YQ l f with
  | true => exact ⟨0, by simp, fun _ => by simp, fun h => by simp at h, fun j hj => absurd hj (by omega)⟩
  | false =>
   rw [Bool.or_eq_false_iff] at hc
   have hne : 0 < ds.length := by
    cases ds with
    | nil => simp at hc
    | cons e r => simp
   obtain ⟨k, e, i1, i2, i3⟩ := Ug (l := l) ds (f + 1) (by omega) (by omega)
   rw [cond_false, wrap_in (by omega), e]
   refine ⟨k + 1, by rw [List.drop_succ_cons]; congr 1; omega, fun _ => by have := i1 hne; rw [List.length_cons]; omega, fun h => by simp at h, fun j hj => ?_⟩
   cases j with
   | zero => simpa using hc.2
   | succ j =>
    have := i3 j (by omega)
    rw [show f + ((j + 1 : Nat) : Int) = f + 1 + (j : Int) by omega]
    exact this
theorem Wv {h : Hst} {l : List Csr} (hv : GZ h = true) : GZ (duB h l) = true ∧ 1 <= (duB h l).2.length ∧ (duB h l).1 + ((duB h l).2.length : Int) = h.1 + (h.2.length : Int) ∧ ∀ c ∈ l, snB (duB h l) c.1 = snB h c.1 := by
 have hf := Hu hv
 have hi := PC hv
 obtain ⟨k, e, k1, _, k3⟩ := Ug (l := l) h.2 h.1 (by omega) (by omega)
 have hk := k1 (by omega)
 have eg : duB h l = (h.1 + (k : Int), h.2.drop k) := by unfold duB; rw [hv]; exact e
 have hG : GZ (duB h l) = true := by
  rw [eg]
  refine UC ?_ ?_ (fun d hd => hf.2.2 d (List.mem_of_mem_drop hd)) ?_ ?_
  ·simp only [List.length_drop]; omega
  ·simp only [List.length_drop]; omega
  ·simp only; omega
  ·simp only [List.length_drop]; omega
 refine ⟨hG, by rw [eg]; simp only [List.length_drop]; omega, by rw [eg]; simp only [List.length_drop]; omega, fun c hc => ?_⟩
 unfold snB
 rw [hG, hv, eg]
 simp only [Bool.true_and, List.length_drop]
 have hne : ∀ j, j < k -> c.1 ≠ h.1 + (j : Int) := fun j hj he => by
  have h1 := k3 j hj
  unfold YQ at h1
  obtain ⟨i, hi', rfl⟩ := List.mem_iff_getElem.1 hc
  have := D6 h1 hi'
  rw [he] at this
  simp at this
 have hb : btw c.1 (h.1 + (k : Int)) (h.1 + (k : Int) + ((h.2.length - k : Nat) : Int) - 1) = btw c.1 h.1 (h.1 + (h.2.length : Int) - 1) := by
  unfold btw
  rw [Bool.eq_iff_iff, Bool.and_eq_true, Bool.and_eq_true, decide_eq_true_eq, decide_eq_true_eq, decide_eq_true_eq, decide_eq_true_eq]
  constructor
  ·rintro ⟨h1, h2⟩; omega
  ·rintro ⟨h1, h2⟩
   have : ¬ c.1 < h.1 + (k : Int) := fun h3 => by
    have := hne (c.1 - h.1).toNat (by omega)
    omega
   omega
 rw [hb]
 cases hbb : btw c.1 h.1 (h.1 + (h.2.length : Int) - 1) with
 | false => rfl
 | true =>
  have hb2 := hb
  rw [hbb] at hb2
  unfold btw at hb2
  rw [Bool.and_eq_true, decide_eq_true_eq, decide_eq_true_eq] at hb2
  simp only [cond_true, List.getElem?_drop]
  rw [show k + (c.1 - (h.1 + (k : Int))).toNat = (c.1 - h.1).toNat by omega]
theorem gF {h : Hst} {l : List Csr} (hs : Hw h) : Hw (duB h l) := by
 unfold duB
 cases GZ h with
 | false => exact hs
 | true =>
  have key : ∀ (ds : List (List Tbl)) (f : Int), (OA l ds f).2.length <= ds.length ∧ ∀ d ∈ (OA l ds f).2, d ∈ ds := by
   intro ds
   induction ds with
   | nil => intro f; exact ⟨Nat.le_refl _, fun d h => h⟩
   | cons d ds ih =>
    intro f
    rw [OA]
    cases ds.isEmpty || YQ l f with
    | true => exact ⟨Nat.le_refl _, fun d h => h⟩
    | false =>
     obtain ⟨h1, h2⟩ := ih (IntKind.i64.wrap (f + 1))
     exact ⟨by simp only [cond_false, List.length_cons]; omega, fun x hx => List.mem_cons_of_mem _ (h2 x hx)⟩
  obtain ⟨h1, h2⟩ := key h.2 h.1
  exact ⟨Nat.le_trans h1 hs.1, fun d hd => hs.2 d (h2 d hd)⟩
end Go.Proofs.YtlknpohjnpnodaaGreat
