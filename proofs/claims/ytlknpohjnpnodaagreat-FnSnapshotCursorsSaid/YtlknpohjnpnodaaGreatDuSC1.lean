/-
 DropUnusedSnapshots: the reference and the program give the same, and how much. No conditions.
-/
import Derived.Test.YtlknpohjnpnodaaGreatAsSC1
import Derived.Test.YtlknpohjnpnodaaGreatSrSC1
import Derived.Test.YtlknpohjnpnodaaGreatQuSC1
namespace Go.Proofs.YtlknpohjnpnodaaGreat
open Go.RowKit
set_option linter.unusedVariables false
set_option linter.unusedSimpArgs false
abbrev Csr := Int × List Int × List Int × Qry
def YQ (l : List Csr) (f : Int) : Bool := AI l fun _ c => c.1 == f
def OA (l : List Csr) : List (List Tbl) -> Int -> Hst
 | [], f => (f, [])
 | d :: ds, f => cond (ds.isEmpty || YQ l f) (f, d :: ds) (OA l ds (IntKind.i64.wrap (f + 1)))
theorem ie {l : List Csr} (hl : l.length <= lim) (f : Int) (y : List (List Tbl)) : Ai (BK l f y) fz 0 = some (cond (YQ l f) (.inr (f, y)) (.inl ())) :=
 KM (fun k => atB l k fun c => c.1 == f) (f, y) hl (fun k hk rec => by
  unfold BK
  rw [AC hk, Ak hk, AH hk (Ax hl), AY hk]
  rfl) (fun rec => by unfold BK; rw [Ay]; rfl)
def duS {α : Type} : Sum α α -> α
 | .inl x => x
 | .inr x => x
theorem bJ (d : List Tbl) (ds : List (List Tbl)) : okJ (d :: ds) (Le (([] : List (Nat × List Tbl)) ++ A7 (AK 0 (d :: ds)) 1 (List.length (AK 0 (d :: ds)) : Int))) [] = true ∧ List.map getM (Le (([] : List (Nat × List Tbl)) ++ A7 (AK 0 (d :: ds)) 1 (List.length (AK 0 (d :: ds)) : Int))) = ds := by
 have e : A7 (AK 0 (d :: ds)) 1 (List.length (AK 0 (d :: ds)) : Int) = AK 1 ds := F6 (0, d) (AK 1 ds)
 rw [e, List.nil_append]
 refine ⟨SB (fun p hp => ?_) ?_ (by simp), PA _ _⟩
 ·have hp : p ∈ AK 1 ds := by
   unfold Le at hp
   obtain ⟨x, hx, he⟩ := List.mem_map.1 hp
   cases he; exact hx
  have := Qt hp
  rw [show p.1 = (p.1 - 1) + 1 by omega, List.getElem?_cons_succ]
  exact this.2
 ·rw [KP]; exact List.nodup_range'
theorem XR {l : List Csr} (hl : l.length <= lim) : ∀ (ds : List (List Tbl)) (f : Int) (m : Nat), ds.length <= lim -> ds.length < m -> ∃ o, Ai (Bh l) m (f, ds) = some o ∧ duS o = OA l ds f
 | [], f, m, _, hm => by
  obtain ⟨m, rfl⟩ : ∃ k, m = k + 1 := ⟨m - 1, by omega⟩
  exact ⟨.inl (f, []), by rw [DP, Bh]; rfl, rfl⟩
 | [d], f, m, _, hm => by
  obtain ⟨m, rfl⟩ : ∃ k, m = k + 1 := ⟨m - 1, by omega⟩
  exact ⟨.inl (f, [d]), by rw [DP, Bh]; rfl, rfl⟩
 | d :: e :: r, f, m, hd, hm => by
  obtain ⟨m, rfl⟩ : ∃ k, m = k + 1 := ⟨m - 1, by omega⟩
  obtain ⟨o, h1, h2⟩ := XR hl (e :: r) (IntKind.i64.wrap (f + 1)) m (by simp only [List.length_cons] at hd ⊢; omega) (by simp only [List.length_cons] at hm ⊢; omega)
  obtain ⟨j1, j2⟩ := bJ d (e :: r)
  have hE : (AK 0 (d :: e :: r)).length = (d :: e :: r).length := G1 0 _
  have hS : (A7 (AK 0 (d :: e :: r)) 1 (List.length (AK 0 (d :: e :: r)) : Int)).length <= lim := by
   rw [show A7 (AK 0 (d :: e :: r)) 1 (List.length (AK 0 (d :: e :: r)) : Int) = AK 1 (e :: r) from F6 (0, d) (AK 1 (e :: r)), G1]
   simp only [List.length_cons] at hd ⊢; omega
  rw [DP, Bh]
  rw [decide_eq_true (by simp only [List.length_cons]; omega : (1 : Int) < ((d :: e :: r).length : Int)), cond_true, ie hl]
  simp only [Ad]
  rw [OA]
  cases hh : YQ l f with
  | true => exact ⟨.inr (f, d :: e :: r), rfl, rfl⟩
  | false =>
   simp only [cond_false]
   rw [Am (by rw [hE]; simp only [List.length_cons]; omega), Am (by simp only [List.length_nil]; omega), Am j1, j2]
   exact ⟨o, h1, h2⟩
def duB (h : Hst) (l : List Csr) : Hst := cond (GZ h) (OA l h.2 h.1) h
theorem kE {h : Hst} {l : List Csr} (hs : Hw h) (hl : l.length <= lim) : Cs h l = some (duB h l) := by
 unfold Cs duB
 simp only [UE hs, Sg hs, Ad]
 cases GZ h with
 | false => rfl
 | true =>
  obtain ⟨o, e1, e2⟩ := XR hl h.2 h.1 fz hs.1 (G0 hs.1)
  simp only [Bool.not_true, cond_false, cond_true, e1]
  cases o with
  | inl x => obtain ⟨x1, x2⟩ := x; exact congrArg some e2
  | inr x => exact congrArg some e2
end Go.Proofs.YtlknpohjnpnodaaGreat
