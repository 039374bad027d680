/-
 Finding a relation, and when a dependency is valid: the reference and the program agree. On the printed functions; conditions: lengths.
-/
import Derived.Test.YtceghmdneadhbaaGreatVaWA1
namespace Go.Proofs.YtceghmdneadhbaaGreat
open Go.RowKit
set_option linter.unusedSimpArgs false
theorem map_loop {α β : Type} {a : List α} {h : α -> β} {B : (List β × Int -> Option (List β)) -> List β × Int -> Option (List β)} (hl : a.length <= lim)
  (h1 : ∀ k (hk : k < a.length),∀ rec,B rec ((a.take k).map h,(k : Int)) = rec ((a.take k).map h ++ [h a[k]],((k + 1 : Nat) : Int))) (h2 : ∀ rec y,B rec (y,(a.length : Int)) = some y) : loopF B fz ([],0) = some (a.map h) := by
 have := loop_to (body := B) (out := a.map h) (fun k => ((a.take k).map h,(k : Int))) a.length (fun k hk rec => by
  rw [h1 k hk,List.take_succ_eq_append_getElem hk,List.map_append]; rfl) (fun rec => by rw [h2,List.take_length]) fz (lt_fz hl)
 simpa using this
theorem find_loop {α O : Type} {a : List α} {B : (Int -> Option (Sum Unit O)) -> Int -> Option (Sum Unit O)} (p : α -> Bool) (g : α -> O) (hl : a.length <= lim)
  (h1 : ∀ k (hk : k < a.length),∀ rec,B rec (k : Int) = cond (p a[k]) (some (.inr (g a[k]))) (rec ((k + 1 : Nat) : Int))) (h2 : ∀ rec,B rec (a.length : Int) = some (.inl ())) :
  loopF B fz 0 = some (match a.find? p with | some e => .inr (g e) | none => .inl ()) := by
 have key : ∀ d k,k + d = a.length -> ∀ m,d < m -> loopF B m (k : Int) = some (match (a.drop k).find? p with | some e => .inr (g e) | none => .inl ()) := by
  intro d
  induction d with
  | zero =>
   intro k hk m hm
   cases m with
   | zero => omega
   | succ m =>
    show B (loopF B m) (k : Int) = _
    rw [show k = a.length by omega,h2,List.drop_length]; rfl
  | succ d ih =>
   intro k hk m hm
   cases m with
   | zero => omega
   | succ m =>
    have hlt : k < a.length := by omega
    show B (loopF B m) (k : Int) = _
    rw [h1 k hlt,List.drop_eq_getElem_cons hlt,List.find?_cons]
    cases hp : p a[k] with
    | true => rfl
    | false => exact ih (k + 1) (by omega) m (by omega)
 have := key a.length 0 (by omega) fz (lt_fz hl)
 simpa using this
theorem s_copy {r : Int × List (List Int)} (h : smRows r.2) : spec_l5Copy r = some r := by
 unfold spec_l5Copy
 rw [map_loop (a := r.2) (h := id) h.1 (fun k hk rec => by
  have hr := h.2 _ (List.getElem_mem hk)
  unfold spec_l5Copy_B1
  simp only
  rw [lt_dec hk,geti_at hk,wrap_s hk (lim_max h.1)]
  simp only [cond_true,obind]
  rw [chk_pos (by simpa using hr),chk_pos (by simp only [List.length_map,List.length_take,List.length_singleton]; unfold lim at *; have := h.1; unfold lim at this; omega)]
  simp) (fun rec y => by unfold spec_l5Copy_B1; simp only; rw [nlt_dec]; rfl)]
 simp [obind]
theorem i_copyI {l : List Int} (h : l.length <= lim) : impl_copyInts l = some l := by
 unfold impl_copyInts
 rw [chk_pos (by simpa using h)]; simp
theorem i_copyR {l : List (List Int)} (h : smRows l) : impl_copyRows l = some l := by
 unfold impl_copyRows
 rw [map_loop (a := l) (h := id) h.1 (fun k hk rec => by
  have hr := h.2 _ (List.getElem_mem hk)
  unfold impl_copyRows_B1
  simp only
  rw [lt_dec hk,geti_at hk,wrap_s hk (lim_max h.1)]
  simp only [cond_true,obind,i_copyI hr]
  rw [chk_pos (by simp only [List.length_map,List.length_take,List.length_singleton]; unfold lim at *; have := h.1; unfold lim at this; omega)]
  simp) (fun rec y => by unfold impl_copyRows_B1; simp only; rw [nlt_dec]; rfl)]
 simp [obind]
theorem i_copy {r : Int × List (List Int)} (h : smRows r.2) : impl_copyRelation r = some r := by
 unfold impl_copyRelation
 simp [i_copyR h,obind]
def lookB (d : List Tbl) (nm : List UInt8) : (Int × List (List Int)) × Bool := if dbB d = true then (match d.find? (fun t => t.1 == nm) with | some t => (t.2,true) | none => ((0,[]),false)) else ((0,[]),false)
theorem s_look {d : List Tbl} (h : smDb d) (nm : List UInt8) : spec_LookupRelation d nm = some (lookB d nm) := by
 unfold spec_LookupRelation lookB
 cases hd : dbB d with
 | true =>
  rw [find_loop (a := d) (fun t => t.1 == nm) (fun t => (t.2,true)) h.1 (fun k hk rec => by
   have hr := h.2 _ (List.getElem_mem hk)
   unfold spec_LookupRelation_B1
   rw [lt_dec hk,geti_at hk,wrap_s hk (lim_max h.1),s_db h,hd]
   simp only [cond_true,obind,s_copy hr.2]) (fun rec => by unfold spec_LookupRelation_B1; rw [nlt_dec]; rfl)]
  simp only [obind,if_true]
  cases d.find? (fun t => t.1 == nm) <;> rfl
 | false =>
  have : loopF (spec_LookupRelation_B1 d nm) fz 0 = some (.inl ()) := by
   refine loop_to (body := spec_LookupRelation_B1 d nm) (fun _ => 0) 0 (fun k hk => absurd hk (by omega)) (fun rec => ?_) fz (by unfold fz; omega)
   unfold spec_LookupRelation_B1
   rw [s_db h,hd]
   cases decide ((0 : Int) < (d.length : Int)) <;> rfl
  rw [this]; rfl
theorem i_look {d : List Tbl} (h : smDb d) (nm : List UInt8) : impl_LookupRelation d nm = some (lookB d nm) := by
 unfold impl_LookupRelation impl_LookupRelation_J1 lookB
 simp only [i_db h,obind]
 cases hd : dbB d with
 | true =>
  rw [find_loop (a := d) (fun t => t.1 == nm) (fun t => (t.2,true)) h.1 (fun k hk rec => by
   have hr := h.2 _ (List.getElem_mem hk)
   unfold impl_LookupRelation_B2
   rw [lt_dec hk,geti_at hk,wrap_s hk (lim_max h.1)]
   simp only [cond_true,obind,i_copy hr.2]) (fun rec => by unfold impl_LookupRelation_B2; rw [nlt_dec]; rfl)]
  simp only [cond_true,if_true]
  cases d.find? (fun t => t.1 == nm) <;> rfl
 | false => rfl
theorem loopF_succ {S O : Type} (body : (S -> Option O) -> S -> Option O) (n : Nat) (s : S) : loopF body (n + 1) s = body (loopF body n) s := rfl
end Go.Proofs.YtceghmdneadhbaaGreat
