/-
 Finding a relation, and when a dependency is valid: the reference and the program agree. On the printed functions; conditions: lengths.
-/
import Derived.Test.YtkclaipnejgloaaGreatDoorVaIF1
namespace Go.Proofs.YtkclaipnejgloaaGreatDoor
open Go.RowKit
set_option linter.unusedSimpArgs false
theorem G8 {α β : Type} {a : List α} {h : α -> β} {B : (List β × Int -> Option (List β)) -> List β × Int -> Option (List β)} (hl : a.length <= lim)
  (h1 : ∀ k (hk : k < a.length),∀ rec,B rec ((a.take k).map h,(k : Int)) = rec ((a.take k).map h ++ [h a[k]],((k + 1 : Nat) : Int))) (h2 : ∀ rec y,B rec (y,(a.length : Int)) = some y) : Ah B fz ([],0) = some (a.map h):=by
 have:=B8 (body:=B) (out:=a.map h) (fun k => ((a.take k).map h,(k : Int))) a.length (fun k hk rec => by
  rw [h1 k hk,List.take_succ_eq_append_getElem hk,List.map_append]; rfl) (fun rec => by rw [h2,List.take_length]) fz (FZ hl)
 simpa using this
theorem QC {α O : Type} {a : List α} {B : (Int -> Option (Sum Unit O)) -> Int -> Option (Sum Unit O)} (p : α -> Bool) (g : α -> O) (hl : a.length <= lim)
  (h1 : ∀ k (hk : k < a.length),∀ rec,B rec (k : Int) = cond (p a[k]) (some (.inr (g a[k]))) (rec ((k + 1 : Nat) : Int))) (h2 : ∀ rec,B rec (a.length : Int) = some (.inl ())) :
  Ah B fz 0 = some (match a.find? p with | some e => .inr (g e) | none => .inl ()):=by
 have key : ∀ d k,k + d = a.length -> ∀ m,d < m -> Ah B m (k : Int) = some (match (a.drop k).find? p with | some e => .inr (g e) | none => .inl ()):=by
  intro d
  induction d with
  | zero =>
   intro k hk m hm
   cases m with
   | zero => omega
   | succ m =>
    show B (Ah B m) (k : Int) = _
    rw [show k = a.length by omega,h2,List.drop_length]; rfl
  | succ d ih =>
   intro k hk m hm
   cases m with
   | zero => omega
   | succ m =>
    have hlt : k < a.length:=by omega
    show B (Ah B m) (k : Int) = _
    rw [h1 k hlt,List.drop_eq_getElem_cons hlt,List.find?_cons]
    cases hp : p a[k] with
    | true => rfl
    | false => exact ih (k + 1) (by omega) m (by omega)
 have:=key a.length 0 (by omega) fz (FZ hl)
 simpa using this
theorem Ym {r : Int × List (List Int)} (h : Hi r.2) : HJ r = some r:=by
 unfold HJ
 rw [G8 (a:=r.2) (h:=id) h.1 (fun k hk rec => by
  have hr:=h.2 _ (List.getElem_mem hk)
  unfold HO
  simp only
  rw [Az hk,Ai hk,AF hk (Au h.1)]
  simp only [cond_true,Ad]
  rw [Ar (by simpa using hr),Ar (by simp only [List.length_map,List.length_take,List.length_singleton]; unfold lim at *; have:=h.1; unfold lim at this; omega)]
  simp) (fun rec y => by unfold HO; simp only; rw [Ax]; rfl)]
 simp [Ad]
theorem UN {l : List Int} (h : l.length <= lim) : GB l = some l:=by
 unfold GB
 rw [Ar (by simpa using h)]; simp
theorem UO {l : List (List Int)} (h : Hi l) : GC l = some l:=by
 unfold GC
 rw [G8 (a:=l) (h:=id) h.1 (fun k hk rec => by
  have hr:=h.2 _ (List.getElem_mem hk)
  unfold G5
  simp only
  rw [Az hk,Ai hk,AF hk (Au h.1)]
  simp only [cond_true,Ad,UN hr]
  rw [Ar (by simp only [List.length_map,List.length_take,List.length_singleton]; unfold lim at *; have:=h.1; unfold lim at this; omega)]
  simp) (fun rec y => by unfold G5; simp only; rw [Ax]; rfl)]
 simp [Ad]
theorem bd {r : Int × List (List Int)} (h : Hi r.2) : Fn r = some r:=by
 unfold Fn
 simp [UO h,Ad]
def Gr (d : List Tbl) (nm : List UInt8) : (Int × List (List Int)) × Bool:=if dbB d = true then (match d.find? (fun t => t.1 == nm) with | some t => (t.2,true) | none => ((0,[]),false)) else ((0,[]),false)
theorem Yo {d : List Tbl} (h : Q7 d) (nm : List UInt8) : Dq d nm = some (Gr d nm):=by
 unfold Dq Gr
 cases hd : dbB d with
 | true =>
  rw [QC (a:=d) (fun t => t.1 == nm) (fun t => (t.2,true)) h.1 (fun k hk rec => by
   have hr:=h.2 _ (List.getElem_mem hk)
   unfold Bu
   rw [Az hk,Ai hk,AF hk (Au h.1),jD h,hd]
   simp only [cond_true,Ad,Ym hr.2]) (fun rec => by unfold Bu; rw [Ax]; rfl)]
  simp only [Ad,if_true]
  cases d.find? (fun t => t.1 == nm) <;> rfl
 | false =>
  have : Ah (Bu d nm) fz 0 = some (.inl ()):=by
   refine B8 (body:=Bu d nm) (fun _ => 0) 0 (fun k hk => absurd hk (by omega)) (fun rec => ?_) fz (by unfold fz; omega)
   unfold Bu
   rw [jD h,hd]
   cases decide ((0 : Int) < (d.length : Int)) <;> rfl
  rw [this]; rfl
theorem XV {d : List Tbl} (h : Q7 d) (nm : List UInt8) : Dh d nm = some (Gr d nm):=by
 unfold Dh C8 Gr
 simp only [jY h,Ad]
 cases hd : dbB d with
 | true =>
  rw [QC (a:=d) (fun t => t.1 == nm) (fun t => (t.2,true)) h.1 (fun k hk rec => by
   have hr:=h.2 _ (List.getElem_mem hk)
   unfold EG
   rw [Az hk,Ai hk,AF hk (Au h.1)]
   simp only [cond_true,Ad,bd hr.2]) (fun rec => by unfold EG; rw [Ax]; rfl)]
  simp only [cond_true,if_true]
  cases d.find? (fun t => t.1 == nm) <;> rfl
 | false => rfl
def Hs (l : List Int) (k : Nat) (e : Int) : Bool:=decide (0 < k) && atB l (k - 1) fun q => decide (e <= q)
theorem AD {S O : Type} (body : (S -> Option O) -> S -> Option O) (n : Nat) (s : S) : Ah body (n + 1) s = body (Ah body n) s:=rfl
def Mi (l : List Int) (rec : Int -> Option (Sum Unit Bool)) (i : Int) : Option (Sum Unit Bool):=if i = 0 then (if l.length = 0 then some (.inl ()) else rec 1) else At l rec i
theorem gk {l : List Int} (h : l.length <= lim) : Cj l = some (!Ay l (Hs l)):=by
 unfold Cj Ay
 have hB : Ah (At l) fz 1 = some (cond ((List.range l.length).any fun k => atB l k (Hs l k)) (.inr false) (.inl ())):=by
  have h0:=O3 (M:=fz + 1) (B:=Mi l) (fun k => atB l k (Hs l k)) (Nat.lt_succ_of_lt (FZ h)) (fun k hk rec => by
   by_cases hz : k = 0
   ·subst hz
    rw [AN hk]
    unfold Mi
    rw [if_pos (show ((0 : Nat) : Int) = 0 from rfl),if_neg (by omega)]
    simp [Hs]
   ·have hk' : k - 1 < l.length:=by omega
    have hz' : ¬ ((k : Int) = 0):=by omega
    unfold Mi
    rw [if_neg hz']
    unfold At
    rw [Az hk,Ai hk,AF hk (Au h),Ri hk (by omega) (Au h),Ai hk',AN hk]
    simp only [cond_true,Ad,Hs]
    rw [AN hk',decide_eq_true (by omega : 0 < k)]
    simp only [Bool.true_and]) (fun rec => by
   by_cases hz : l.length = 0
   ·unfold Mi; rw [hz]; rfl
   ·have hz' : ¬ ((l.length : Int) = 0):=by omega
    unfold Mi
    rw [if_neg hz']
    unfold At
    rw [Ax]; rfl)
  have same : ∀ m (k : Nat),0 < k -> Ah (Mi l) m (k : Int) = Ah (At l) m (k : Int):=by
   intro m
   induction m with
   | zero => intro k _; rfl
   | succ m ih =>
    intro k hk
    have hz : ¬ ((k : Int) = 0):=by omega
    have ea : ∀ rec,Mi l rec (k : Int) = At l rec (k : Int):=fun rec => by unfold Mi; rw [if_neg hz]
    show Mi l (Ah (Mi l) m) (k : Int) = At l (Ah (At l) m) (k : Int)
    rw [ea]
    have e : ∀ rec,At l rec (k : Int) = cond (decide ((k : Int) < (List.length l : Int))) (Ad (AA l (IntKind.i64.wrap ((k : Int) - 1))) fun e5 => Ad (AA l (k : Int)) fun e7 => cond (decide (e7 <= e5)) (some (.inr false)) (rec (IntKind.i64.wrap ((k : Int) + 1)))) (some (.inl ())):=fun rec => rfl
    rw [e,e]
    by_cases q : k < l.length
    ·rw [AF q (Au h),ih (k + 1) (by omega)]
    ·rw [decide_eq_false (by omega : ¬ (k : Int) < (l.length : Int))]; rfl
  by_cases hz : l.length = 0
  ·have e1 : (List.range l.length).any (fun k => atB l k (Hs l k)) = false:=by rw [hz]; rfl
   rw [e1]
   refine B8 (body:=At l) (fun _ => 1) 0 (fun k hk => absurd hk (by omega)) (fun rec => ?_) fz (by unfold fz; omega)
   unfold At
   rw [hz]; rfl
  ·have h2 : Ah (Mi l) (fz + 1) 0 = Ah (At l) fz ((1 : Nat) : Int):=by
    have e0 : ∀ rec,Mi l rec 0 = rec 1:=fun rec => by unfold Mi; rw [if_pos rfl,if_neg hz]
    rw [AD,e0]
    exact same fz 1 (by omega)
   rw [h2] at h0
   exact h0
 rw [hB]
 cases (List.range l.length).any fun k => atB l k (Hs l k) <;> rfl
end Go.Proofs.YtkclaipnejgloaaGreatDoor
