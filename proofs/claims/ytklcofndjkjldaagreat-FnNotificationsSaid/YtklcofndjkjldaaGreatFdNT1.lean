/-
 Finding a relation, and when a dependency is valid: the reference and the program agree. On the printed functions; conditions: lengths.
-/
import Derived.Test.YtklcofndjkjldaaGreatVaNT1
namespace Go.Proofs.YtklcofndjkjldaaGreat
open Go.RowKit
set_option linter.unusedSimpArgs false
theorem Fu {α β : Type} {a : List α} {h : α -> β} {B : (List β × Int -> Option (List β)) -> List β × Int -> Option (List β)} (hl : a.length <= lim)
  (h1 : ∀ k (hk : k < a.length),∀ rec,B rec ((a.take k).map h,(k : Int)) = rec ((a.take k).map h ++ [h a[k]],((k + 1 : Nat) : Int))) (h2 : ∀ rec y,B rec (y,(a.length : Int)) = some y) : Al B fz ([],0) = some (a.map h):=by
 have:=Ed (body:=B) (out:=a.map h) (fun k => ((a.take k).map h,(k : Int))) a.length (fun k hk rec => by
  rw [h1 k hk,List.take_succ_eq_append_getElem hk,List.map_append]; rfl) (fun rec => by rw [h2,List.take_length]) fz (Ii hl)
 simpa using this
theorem P8 {α O : Type} {a : List α} {B : (Int -> Option (Sum Unit O)) -> Int -> Option (Sum Unit O)} (p : α -> Bool) (g : α -> O) (hl : a.length <= lim)
  (h1 : ∀ k (hk : k < a.length),∀ rec,B rec (k : Int) = cond (p a[k]) (some (.inr (g a[k]))) (rec ((k + 1 : Nat) : Int))) (h2 : ∀ rec,B rec (a.length : Int) = some (.inl ())) :
  Al B fz 0 = some (match a.find? p with | some e => .inr (g e) | none => .inl ()):=by
 have key : ∀ d k,k + d = a.length -> ∀ m,d < m -> Al B m (k : Int) = some (match (a.drop k).find? p with | some e => .inr (g e) | none => .inl ()):=by
  intro d
  induction d with
  | zero =>
   intro k hk m hm
   cases m with
   | zero => omega
   | succ m =>
    show B (Al B m) (k : Int) = _
    rw [show k = a.length by omega,h2,List.drop_length]; rfl
  | succ d ih =>
   intro k hk m hm
   cases m with
   | zero => omega
   | succ m =>
    have hlt : k < a.length:=by omega
    show B (Al B m) (k : Int) = _
    rw [h1 k hlt,List.drop_eq_getElem_cons hlt,List.find?_cons]
    cases hp : p a[k] with
    | true => rfl
    | false => exact ih (k + 1) (by omega) m (by omega)
 have:=key a.length 0 (by omega) fz (Ii hl)
 simpa using this
theorem OT {r : Int × List (List Int)} (h : A9 r.2) : EO r = some r:=by
 unfold EO
 rw [Fu (a:=r.2) (h:=id) h.1 (fun k hk rec => by
  have hr:=h.2 _ (List.getElem_mem hk)
  unfold H4
  simp only
  rw [AF hk,Aj hk,AO hk (At h.1)]
  simp only [cond_true,Ad]
  rw [Ak (by simpa using hr),Ak (by simp only [List.length_map,List.length_take,List.length_singleton]; unfold lim at *; have:=h.1; unfold lim at this; omega)]
  simp) (fun rec y => by unfold H4; simp only; rw [Az]; rfl)]
 simp [Ad]
theorem JM {l : List Int} (h : l.length <= lim) : A8 l = some l:=by
 unfold A8
 rw [Ak (by simpa using h)]; simp
theorem Mk {l : List (List Int)} (h : A9 l) : CU l = some l:=by
 unfold CU
 rw [Fu (a:=l) (h:=id) h.1 (fun k hk rec => by
  have hr:=h.2 _ (List.getElem_mem hk)
  unfold GY
  simp only
  rw [AF hk,Aj hk,AO hk (At h.1)]
  simp only [cond_true,Ad,JM hr]
  rw [Ak (by simp only [List.length_map,List.length_take,List.length_singleton]; unfold lim at *; have:=h.1; unfold lim at this; omega)]
  simp) (fun rec y => by unfold GY; simp only; rw [Az]; rfl)]
 simp [Ad]
theorem Uh {r : Int × List (List Int)} (h : A9 r.2) : CO r = some r:=by
 unfold CO
 simp [Mk h,Ad]
def BY (d : List Tbl) (nm : List UInt8) : (Int × List (List Int)) × Bool:=if dbB d = true then (match d.find? (fun t => t.1 == nm) with | some t => (t.2,true) | none => ((0,[]),false)) else ((0,[]),false)
theorem Qy {d : List Tbl} (h : Iu d) (nm : List UInt8) : Bj d nm = some (BY d nm):=by
 unfold Bj BY
 cases hd : dbB d with
 | true =>
  rw [P8 (a:=d) (fun t => t.1 == nm) (fun t => (t.2,true)) h.1 (fun k hk rec => by
   have hr:=h.2 _ (List.getElem_mem hk)
   unfold Bt
   rw [AF hk,Aj hk,AO hk (At h.1),XC h,hd]
   simp only [cond_true,Ad,OT hr.2]) (fun rec => by unfold Bt; rw [Az]; rfl)]
  simp only [Ad,if_true]
  cases d.find? (fun t => t.1 == nm) <;> rfl
 | false =>
  have : Al (Bt d nm) fz 0 = some (.inl ()):=by
   refine Ed (body:=Bt d nm) (fun _ => 0) 0 (fun k hk => absurd hk (by omega)) (fun rec => ?_) fz (by unfold fz; omega)
   unfold Bt
   rw [XC h,hd]
   cases decide ((0 : Int) < (d.length : Int)) <;> rfl
  rw [this]; rfl
theorem Sa {d : List Tbl} (h : Iu d) (nm : List UInt8) : Bx d nm = some (BY d nm):=by
 unfold Bx CA BY
 simp only [al h,Ad]
 cases hd : dbB d with
 | true =>
  rw [P8 (a:=d) (fun t => t.1 == nm) (fun t => (t.2,true)) h.1 (fun k hk rec => by
   have hr:=h.2 _ (List.getElem_mem hk)
   unfold D1
   rw [AF hk,Aj hk,AO hk (At h.1)]
   simp only [cond_true,Ad,Uh hr.2]) (fun rec => by unfold D1; rw [Az]; rfl)]
  simp only [cond_true,if_true]
  cases d.find? (fun t => t.1 == nm) <;> rfl
 | false => rfl
theorem Ju {S O : Type} (body : (S -> Option O) -> S -> Option O) (n : Nat) (s : S) : Al body (n + 1) s = body (Al body n) s:=rfl
end Go.Proofs.YtklcofndjkjldaaGreat
