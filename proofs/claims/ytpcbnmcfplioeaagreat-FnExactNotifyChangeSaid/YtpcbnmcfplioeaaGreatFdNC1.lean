/-
 Finding a relation, and when a dependency is valid: the reference and the program agree. On the printed functions; conditions: lengths.
-/
import Derived.Test.YtpcbnmcfplioeaaGreatVaNC1
namespace Go.Proofs.YtpcbnmcfplioeaaGreat
open Go.RowKit
set_option linter.unusedSimpArgs false
theorem Gk {α β : Type} {a : List α} {h : α -> β} {B : (List β × Int -> Option (List β)) -> List β × Int -> Option (List β)} (hl : a.length <= lim)
  (h1 : ∀ k (hk : k < a.length),∀ rec,B rec ((a.take k).map h,(k : Int)) = rec ((a.take k).map h ++ [h a[k]],((k + 1 : Nat) : Int))) (h2 : ∀ rec y,B rec (y,(a.length : Int)) = some y) : Ao B fz ([],0) = some (a.map h):=by
 have:=DN (body:=B) (out:=a.map h) (fun k => ((a.take k).map h,(k : Int))) a.length (fun k hk rec => by
  rw [h1 k hk,List.take_succ_eq_append_getElem hk,List.map_append]; rfl) (fun rec => by rw [h2,List.take_length]) fz (HP hl)
 simpa using this
theorem S8 {α O : Type} {a : List α} {B : (Int -> Option (Sum Unit O)) -> Int -> Option (Sum Unit O)} (p : α -> Bool) (g : α -> O) (hl : a.length <= lim)
  (h1 : ∀ k (hk : k < a.length),∀ rec,B rec (k : Int) = cond (p a[k]) (some (.inr (g a[k]))) (rec ((k + 1 : Nat) : Int))) (h2 : ∀ rec,B rec (a.length : Int) = some (.inl ())) :
  Ao B fz 0 = some (match a.find? p with | some e => .inr (g e) | none => .inl ()):=by
 have key : ∀ d k,k + d = a.length -> ∀ m,d < m -> Ao B m (k : Int) = some (match (a.drop k).find? p with | some e => .inr (g e) | none => .inl ()):=by
  intro d
  induction d with
  | zero =>
   intro k hk m hm
   cases m with
   | zero => omega
   | succ m =>
    show B (Ao B m) (k : Int) = _
    rw [show k = a.length by omega,h2,List.drop_length]; rfl
  | succ d ih =>
   intro k hk m hm
   cases m with
   | zero => omega
   | succ m =>
    have hlt : k < a.length:=by omega
    show B (Ao B m) (k : Int) = _
    rw [h1 k hlt,List.drop_eq_getElem_cons hlt,List.find?_cons]
    cases hp : p a[k] with
    | true => rfl
    | false => exact ih (k + 1) (by omega) m (by omega)
 have:=key a.length 0 (by omega) fz (HP hl)
 simpa using this
theorem TD {r : Int × List (List Int)} (h : Bl r.2) : FI r = some r:=by
 unfold FI
 rw [Gk (a:=r.2) (h:=id) h.1 (fun k hk rec => by
  have hr:=h.2 _ (List.getElem_mem hk)
  unfold Ir
  simp only
  rw [AL hk,Am hk,AS hk (AA h.1)]
  simp only [cond_true,Ad]
  rw [Ap (by simpa using hr),Ap (by simp only [List.length_map,List.length_take,List.length_singleton]; unfold lim at *; have:=h.1; unfold lim at this; omega)]
  simp) (fun rec y => by unfold Ir; simp only; rw [AG]; rfl)]
 simp [Ad]
theorem Lc {l : List Int} (h : l.length <= lim) : A5 l = some l:=by
 unfold A5
 rw [Ap (by simpa using h)]; simp
theorem P5 {l : List (List Int)} (h : Bl l) : DJ l = some l:=by
 unfold DJ
 rw [Gk (a:=l) (h:=id) h.1 (fun k hk rec => by
  have hr:=h.2 _ (List.getElem_mem hk)
  unfold Hf
  simp only
  rw [AL hk,Am hk,AS hk (AA h.1)]
  simp only [cond_true,Ad,Lc hr]
  rw [Ap (by simp only [List.length_map,List.length_take,List.length_singleton]; unfold lim at *; have:=h.1; unfold lim at this; omega)]
  simp) (fun rec y => by unfold Hf; simp only; rw [AG]; rfl)]
 simp [Ad]
theorem XE {r : Int × List (List Int)} (h : Bl r.2) : CT r = some r:=by
 unfold CT
 simp [P5 h,Ad]
def B8 (d : List Tbl) (nm : List UInt8) : (Int × List (List Int)) × Bool:=if dbB d = true then (match d.find? (fun t => t.1 == nm) with | some t => (t.2,true) | none => ((0,[]),false)) else ((0,[]),false)
theorem TE {d : List Tbl} (h : KU d) (nm : List UInt8) : Bi d nm = some (B8 d nm):=by
 unfold Bi B8
 cases hd : dbB d with
 | true =>
  rw [S8 (a:=d) (fun t => t.1 == nm) (fun t => (t.2,true)) h.1 (fun k hk rec => by
   have hr:=h.2 _ (List.getElem_mem hk)
   unfold Bw
   rw [AL hk,Am hk,AS hk (AA h.1),eG h,hd]
   simp only [cond_true,Ad,TD hr.2]) (fun rec => by unfold Bw; rw [AG]; rfl)]
  simp only [Ad,if_true]
  cases d.find? (fun t => t.1 == nm) <;> rfl
 | false =>
  have : Ao (Bw d nm) fz 0 = some (.inl ()):=by
   refine DN (body:=Bw d nm) (fun _ => 0) 0 (fun k hk => absurd hk (by omega)) (fun rec => ?_) fz (by unfold fz; omega)
   unfold Bw
   rw [eG h,hd]
   cases decide ((0 : Int) < (d.length : Int)) <;> rfl
  rw [this]; rfl
theorem Vj {d : List Tbl} (h : KU d) (nm : List UInt8) : BD d nm = some (B8 d nm):=by
 unfold BD CC B8
 simp only [gI h,Ad]
 cases hd : dbB d with
 | true =>
  rw [S8 (a:=d) (fun t => t.1 == nm) (fun t => (t.2,true)) h.1 (fun k hk rec => by
   have hr:=h.2 _ (List.getElem_mem hk)
   unfold Ej
   rw [AL hk,Am hk,AS hk (AA h.1)]
   simp only [cond_true,Ad,XE hr.2]) (fun rec => by unfold Ej; rw [AG]; rfl)]
  simp only [cond_true,if_true]
  cases d.find? (fun t => t.1 == nm) <;> rfl
 | false => rfl
theorem KL {S O : Type} (body : (S -> Option O) -> S -> Option O) (n : Nat) (s : S) : Ao body (n + 1) s = body (Ao body n) s:=rfl
end Go.Proofs.YtpcbnmcfplioeaaGreat
