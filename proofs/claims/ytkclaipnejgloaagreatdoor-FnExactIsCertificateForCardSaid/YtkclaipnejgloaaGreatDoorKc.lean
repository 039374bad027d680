/-
 A machine on data, part 3: how a law's arguments read as data. Over any program; no conditions.
-/
import Derived.Test.YtkclaipnejgloaaGreatDoorKa
import Derived.Deep.Slices
import Derived.OpenShut
import Derived.Lib.SmallJoins
import Derived.Carry
import Derived.ProofKit
import Derived.Test.YtkclaipnejgloaaGreatDoorKp
namespace Go.Proofs.YtkclaipnejgloaaGreatDoor
open Go.RowKit Go.ChangeShapes Go.WideShapes Go.Deep
theorem TN {α : Type} [Inhabited α] {n : Nat} {p : Nat -> α -> Prop} (h : ∀ i,i < n -> ∃ x,p i x) : ∃ l : List α,l.length = n ∧ ∀ i (hi : i < l.length),p i l[i]:=by
 obtain ⟨f,hf⟩:=choose_lt h
 refine ⟨(List.range n).map f,by simp,fun i hi => ?_⟩
 simp only [List.length_map,List.length_range] at hi
 simpa using hf i hi
theorem flat_get {size : Nat} {f : Nat -> List Value} : ∀ (n : Nat),(∀ i,i < n -> (f i).length = size) -> ((List.range n).flatMap f).length = n * size ∧
  ∀ i j,i < n -> j < size -> ((List.range n).flatMap f)[i * size + j]? = (f i)[j]?:=by
 intro n
 induction n with
 | zero => intro _; exact ⟨by simp,fun i j hi => absurd hi (by omega)⟩
 | succ n ih =>
  intro h
  obtain ⟨h1,h2⟩:=ih (fun i hi => h i (by omega))
  rw [List.range_succ,List.flatMap_append,List.flatMap_singleton]
  refine ⟨by rw [List.length_append,h1,h n (by omega),Nat.succ_mul],fun i j hi hj => ?_⟩
  by_cases e : i = n
  ·subst e
   rw [List.getElem?_append_right (by omega),h1,Nat.add_sub_cancel_left]
  ·have hlt : i * size + j < n * size:=by
    have : (i + 1) * size <= n * size:=Nat.mul_le_mul_right _ (by omega)
    rw [Nat.succ_mul] at this
    omega
   rw [List.getElem?_append_left (by omega),h2 i j (by omega) hj]
section
variable {H : Type} {enc : TypeId × Value -> H} {P : Program} {w : World} {base : Nat} {spare : Nat -> Bool} {held : Bool}
theorem Tx {a : Addr} {j : Nat} {u : Value} (h0 : ∃ v,w.cell? (a.add 0) = some v) (h : w.cell? (a.add j) = some u) : ∃ b off,a = ⟨b,off,none⟩ ∧ w.cell? ⟨b,off + j,none⟩ = some u:=by
 obtain ⟨v,h0⟩:=h0
 obtain ⟨b,off,spot⟩:=a
 have hspot : spot = none:=by simpa [Addr.add] using World.cell?_spot h0
 subst hspot
 exact ⟨b,off,rfl,by rw [<- Go.WideShapes.add_plain]; exact h⟩
theorem open_row {t e : TypeId} {size fuel : Nat} {v : Value} {x : DataW H × List MemPlace} (ht : P.underlying t = some (.slice e)) (hC : P.cellsOf e = size) (hs : 0 < size)
  (h : DataW.trod enc P w base spare held fuel t [v] = some x) :
  ∃ (n : Nat) (xs : List Value),JH w size v n xs ∧ ∀ i,i < n -> ∃ y m,DataW.trod enc P w base spare held m e ((xs.drop (i * size)).take size) = some y:=by
 rcases open_slice ht h with ⟨hv,_⟩ | ⟨a,len,cap,m,fl,D,Pl,hv,hb,hl,hm,hmm,hx,hi⟩
 ·obtain rfl : v = .slice none 0 0:=by simpa using hv
  exact ⟨0,[],⟨none,0,rfl,by omega,by simp,fun h0 => absurd h0 (by omega)⟩,fun i hi => absurd hi (by omega)⟩
 ·obtain rfl : v = .slice (some a) len cap:=by simpa using hv
  subst hC
  have hlm : len <= m:=by rw [hmm]; split <;> omega
  obtain ⟨f,hf⟩:=choose_lt (α:=List Value) (fun i hlt => hi i (Nat.lt_of_lt_of_le hlt hlm))
  have hfl : ∀ i,i < len -> (f i).length = P.cellsOf e:=fun i hlt => (World.cells?_some (hf i hlt).1).2.1
  obtain ⟨g1,g2⟩:=flat_get (size:=P.cellsOf e) (f:=f) len hfl
  have hcell : ∀ j u,((List.range len).flatMap f)[j]? = some u -> w.cell? (a.add j) = some u:=by
   intro j u hu
   have hj : j < len * P.cellsOf e:=by
    rcases Nat.lt_or_ge j (len * P.cellsOf e) with h1 | h1
    ·exact h1
    ·rw [List.getElem?_eq_none (by omega)] at hu; cases hu
   have hd : j / P.cellsOf e < len:=by
    rw [Nat.div_lt_iff_lt_mul hs]; exact hj
   have hr : j % P.cellsOf e < P.cellsOf e:=Nat.mod_lt _ hs
   have he : j / P.cellsOf e * P.cellsOf e + j % P.cellsOf e = j:=by rw [Nat.mul_comm]; exact Nat.div_add_mod _ _
   have:=g2 _ _ hd hr
   rw [he,hu] at this
   have h3:=(World.cells?_some (hf _ hd).1).2.2 _ hr
   rw [Go.Deep.add_add,he] at h3
   rw [h3]; exact this.symm
  refine ⟨len,(List.range len).flatMap f,⟨some a,cap,rfl,by unfold maxLen at hm; omega,g1,fun hn => ?_⟩,fun i hlt => ?_⟩
  ·have h00 : ∃ v,w.cell? (a.add 0) = some v:=by
    have hp : 0 < ((List.range len).flatMap f).length:=by rw [g1]; exact Nat.mul_pos hn hs
    exact ⟨_,hcell 0 _ (List.getElem?_eq_getElem hp)⟩
   obtain ⟨v0,h0⟩:=h00
   obtain ⟨b,off,rfl,_⟩:=Tx ⟨v0,h0⟩ h0
   refine ⟨b,off,rfl,fun j u hu => ?_⟩
   rw [<- Go.WideShapes.add_plain]
   exact hcell j u hu
  ·refine ⟨(D i,Pl i),fl,?_⟩
   rw [<- (hf i hlt).2]
   congr 1
   apply List.ext_getElem?
   intro j
   rw [List.getElem?_take,List.getElem?_drop]
   by_cases hj : j < P.cellsOf e
   ·rw [if_pos hj,g2 i j hlt hj]
   ·rw [if_neg hj,List.getElem?_eq_none (by rw [hfl i hlt]; omega)]
theorem ef {n : Int} (h : (Lit.int .i64 n).wf = true) : -9223372036854775808 <= n ∧ n <= 9223372036854775807:=by
 simpa [Lit.wf,IntKind.min,IntKind.max,IntKind.signed,IntKind.bits] using h
end
end Go.Proofs.YtkclaipnejgloaaGreatDoor
namespace Go.Proofs.YtkclaipnejgloaaGreatDoor
open Go.RowKit Go.ChangeShapes Go.WideShapes
section
variable {H : Type} {enc : TypeId × Value -> H} {P : Program}
theorem Qr {W W' : World} (hl : laidOutB P = true) (hb : Below W.heap.size W W') : ∀ (ts : List TypeId) {vs : List Value} {ds : List (DataW H)} {p : List MemPlace},
  ts.all (fun t => P.readableRec t && decide (t < P.types.size)) = true -> DataW.TrodAll enc P W 0 (fun _ => true) true ts vs ds p -> (∀ x ∈ p,x.block < W.heap.size) ->
  DataW.TrodAll enc P W' 0 (fun b => decide (b < W.heap.size)) true ts vs ds p:=by
 intro ts
 induction ts with
 | nil =>
  intro vs ds p _ h _
  obtain ⟨rfl,rfl,rfl⟩:=trodAll_nil h
  exact trodAll_mk0
 | cons t ts ih =>
  intro vs ds p hall h hlt
  obtain ⟨v,vs',d,ds',p1,q,rfl,rfl,rfl,h0,hr⟩:=trodAll_cons h
  simp only [List.all_cons,Bool.and_eq_true,decide_eq_true_eq] at hall
  exact trodAll_cons_mk (Below.trod hl hall.1.1 hall.1.2 h0 hb (fun x hx => hlt x (List.mem_append_left _ hx))) (ih hall.2 hr (fun x hx => hlt x (List.mem_append_right _ hx)))
end
end Go.Proofs.YtkclaipnejgloaaGreatDoor
namespace Go.Proofs.YtkclaipnejgloaaGreatDoor
open Go.RowKit Go.ChangeShapes Go.WideShapes Go.Deep
set_option linter.unusedVariables false
def StA (w : World) : Nat -> Nat -> Prop:=fun b _ => b < w.heap.size
section
variable {H : Type} (enc : TypeId × Value -> H) (P : Program) (w : World) (base : Nat) (spare : Nat -> Bool) (held : Bool)
def Opens (t : TypeId) {α : Type} (c : α -> List V) (ok : α -> Prop) : Prop := ∀ (fuel : Nat) (cs : List Value) (x : DataW H × List MemPlace),DataW.trod enc P w base spare held fuel t cs = some x -> ∃ a,RdL w (StA w) (c a) cs ∧ ok a
end
def InI (n : Int) : Prop := -9223372036854775808 <= n ∧ n <= 9223372036854775807
section
variable {H : Type} {enc : TypeId × Value -> H} {P : Program} {w : World} {base : Nat} {spare : Nat -> Bool} {held : Bool}
theorem IS {t : TypeId} (ht : P.underlying t = some (.int .i64)) : Opens enc P w base spare held t Ak InI:=by
 intro fuel cs x h
 obtain ⟨n,rfl,_,hw⟩:=DataW.trod_int ht h
 exact ⟨n,⟨_,[],rfl,rfl,rfl⟩,ef hw⟩
theorem QQ {t : TypeId} (ht : P.underlying t = some .string) : Opens enc P w base spare held t cst (fun u => u.length <= maxLen):=by
 intro fuel cs x h
 obtain ⟨s,rfl,_,hs⟩:=DataW.trod_string ht h
 have hl : s.data.toList.length <= maxLen:=by rw [Array.length_toList]; exact hs
 exact ⟨s.data.toList,⟨_,[],rfl,⟨by cases s; simp,hl⟩,rfl⟩,hl⟩
theorem R7 {St : Nat -> Nat -> Prop} : ∀ {cs ds : List V} {us vs : List Value},RdL w St cs us -> RdL w St ds vs -> RdL w St (cs ++ ds) (us ++ vs)
 | [],_,_,_,h,h2 => by rw [show _ = [] from h]; exact h2
 | c :: cs,_,_,_,⟨u,us',e,h1,h3⟩,h2 => by rw [e]; exact ⟨u,us' ++ _,rfl,h1,R7 h3 h2⟩
theorem Te {St : Nat -> Nat -> Prop} {α : Type} {c : α -> List V} {n : Nat} : ∀ (l : List α) (xs : List Value),xs.length = l.length * n -> (∀ i (hi : i < l.length),RdL w St (c l[i]) ((xs.drop (i * n)).take n)) -> RdL w St (l.flatMap c) xs
 | [],xs,hl,_ => by
  have : xs = []:=List.eq_nil_of_length_eq_zero (by simpa using hl)
  rw [this]; rfl
 | a :: l,xs,hl,h => by
  rw [List.flatMap_cons,<- List.take_append_drop n xs]
  have h0:=h 0 (by simp)
  rw [Nat.zero_mul,List.drop_zero,List.getElem_cons_zero] at h0
  have hl2 : (xs.drop n).length = l.length * n:=by rw [List.length_drop,hl,List.length_cons,Nat.succ_mul]; omega
  refine R7 h0 (Te l (xs.drop n) hl2 (fun i hi => ?_))
  have:=h (i + 1) (by simpa using hi)
  rw [List.getElem_cons_succ] at this
  rw [List.drop_drop,show n + i * n = (i + 1) * n by rw [Nat.add_mul]; omega]
  exact this
theorem Xb {b off : Nat} {cs : List V} {us : List Value} (hr : RdL w (StA w) cs us) (hb : ∀ (j : Nat) (u : Value),us[j]? = some u -> w.cell? ⟨b,off + j,none⟩ = some u) (hlt : b < w.heap.size) : Cg w (StA w) b off cs:=by
 refine Cg.mk (fun j c hc => ?_)
 obtain ⟨u,h1,h2⟩:=hr.get j c hc
 exact ⟨hlt,u,hb j u h1,h2⟩
theorem cell_lt {b o : Nat} {u : Value} (h : w.cell? ⟨b,o,none⟩ = some u) : b < w.heap.size:=by
 rcases Nat.lt_or_ge b w.heap.size with h1 | h1
 ·exact h1
 ·simp [World.cell?,Array.getElem?_eq_none h1] at h
theorem LV {t e : TypeId} {α : Type} [Inhabited α] {c : α -> List V} {ok : α -> Prop} {n : Nat} (ht : P.underlying t = some (.slice e)) (hC : P.cellsOf e = n) (hn : 0 < n) (hsz : ∀ a,(c a).length = n) (he : Opens enc P w base spare held e c ok) :
  Opens enc P w base spare held t (fun l : List α => [.dat l.length (l.flatMap c)]) (fun l => l.length <= maxLen ∧ ∀ a ∈ l,ok a):=by
 intro fuel cs x h
 have hcs : ∃ v,cs = [v] ∧ ∃ A k cp,v = .slice A k cp ∧ k <= cp ∧ cp <= maxLen:=by
  rcases open_slice ht h with ⟨h0,_⟩ | ⟨a,len,cap,m,fl,D,Pl,hv,hb,hl,hm,_⟩
  ·exact ⟨_,h0,none,0,0,rfl,Nat.le_refl _,Nat.zero_le _⟩
  ·exact ⟨_,hv,some a,len,cap,rfl,hl,hm⟩
 obtain ⟨v,rfl,A,k,cp,hv,hkc,hcm⟩:=hcs
 obtain ⟨k',xs,hr,hi⟩:=open_row ht hC hn h
 obtain ⟨A',cp',hv',hk,hlx,hrow⟩:=hr
 rw [hv] at hv'
 injection hv' with e1 e2 e3
 subst e1 e2 e3
 obtain ⟨l,hl,hp⟩:=TN (α:=α) (n:=k) (p:=fun i a => RdL w (StA w) (c a) ((xs.drop (i * n)).take n) ∧ ok a) (fun i hlt => by
  obtain ⟨y,m,hy⟩:=hi i hlt
  exact he _ _ _ hy)
 have hrd:=Te l xs (by rw [hlx,hl]) (fun i hi => (hp i hi).1)
 refine ⟨l,⟨v,[],rfl,?_,rfl⟩,by rw [hl]; omega,fun a ha => ?_⟩
 ·rw [hv]
  refine ⟨by rw [hl]; omega,A,cp,by rw [hl],by rw [hl]; exact hkc,fun hpos => ?_,fun h0 => ?_⟩
  ·obtain ⟨b,off,rfl,hcell⟩:=hrow (by omega)
   refine ⟨b,off,rfl,Xb hrd hcell ?_⟩
   have : 0 < xs.length:=by rw [hlx]; exact Nat.mul_pos (by omega) hn
   exact cell_lt (hcell 0 _ (List.getElem?_eq_getElem this))
  ·rw [List.eq_nil_of_length_eq_zero h0]; rfl
 ·obtain ⟨i,hi',rfl⟩:=List.mem_iff_getElem.1 ha
  exact (hp i hi').2
theorem DF {St : Nat -> Nat -> Prop} {cs ds : List V} {us : List Value} {off n : Nat} (h1 : RdL w St cs ((us.drop off).take n)) (h2 : RdL w St ds (us.drop (off + n))) : RdL w St (cs ++ ds) (us.drop off):=by
 rw [<- List.take_append_drop n (us.drop off),List.drop_drop]
 exact R7 h1 h2
theorem Lq {St : Nat -> Nat -> Prop} {us : List Value} {n : Nat} (h : us.length = n) : RdL w St [] (us.drop n):=by
 rw [List.drop_of_length_le (by omega)]; rfl
theorem E1 {t : TypeId} {fs : Array Field} {cs : List Value} {fuel : Nat} {x : DataW H × List MemPlace} (hs : P.underlying t = some (.struct fs)) (h : DataW.trod enc P w base spare held fuel t cs = some x) {j : Nat} {f : Field} (hj : fs[j]? = some f) : ∃ y n,DataW.trod enc P w base spare held n f.type ((cs.drop f.offset).take (P.cellsOf f.type)) = some y:=by
 obtain ⟨ys,n,_,_,_,hlen,hf⟩:=DataW.trod_struct hs h
 have hjl : j < fs.size:=(Array.getElem?_eq_some_iff.1 hj).1
 exact ⟨_,n,(hf j f hj).trans (List.getElem?_eq_getElem (by omega))⟩
theorem st_len {t : TypeId} {fs : Array Field} {cs : List Value} {fuel : Nat} {x : DataW H × List MemPlace} (hs : P.underlying t = some (.struct fs)) (h : DataW.trod enc P w base spare held fuel t cs = some x) : cs.length = P.cellsOf t:=by
 obtain ⟨ys,n,_,_,hl,_,_⟩:=DataW.trod_struct hs h
 exact hl
theorem T4 {t : TypeId} {α : Type} {c : α -> List V} {ok : α -> Prop} {cs : Array Value} {d : DataW H} {p : List MemPlace} (ho : Opens enc P w base spare held t c ok) (h : DataW.Trod enc P w base spare held t (.agg cs) d p) : ∃ a,RdA w (StA w) (.agg (c a)) (.agg cs) ∧ ok a:=by
 obtain ⟨fuel,hf⟩:=h
 obtain ⟨a,h1,h2⟩:=ho _ _ _ hf
 exact ⟨a,⟨cs.toList,by simp,h1⟩,h2⟩
theorem U1 {f : FuncId} {args : List V} {vs : List Value} (hs : Ag P f args (.bool true)) (hg : Glb w (StA w)) (h : O2 w (StA w) args vs) : Calls P f vs.toArray w (fun e w' => e = .returned (.bool true) ∧ Below w.heap.size w w'):=by
 refine (hs.2 w (StA w) vs (fun b o h => h) hg h).mono ?_
 rintro e w' ⟨v,bs,St',rfl,hb,_,_,ho,_⟩
 have hv : v = .bool true:=ho.2
 rw [hv]
 exact ⟨rfl,hb⟩
end
end Go.Proofs.YtkclaipnejgloaaGreatDoor
