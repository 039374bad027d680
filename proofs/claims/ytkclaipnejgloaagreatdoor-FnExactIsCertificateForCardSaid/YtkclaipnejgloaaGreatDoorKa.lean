/-
 A machine on data for the program's functions, part 1: data, memory, operations. Over no program; no conditions.
-/
import Derived.Below
import Derived.Laws.OwnMore
import Derived.Deep.AppendLies
import Derived.Deep.Draws
import Derived.Laws.Rows
import Derived.WalkKit
import Derived.Deep.QuietTactic
import Derived.Lib.Hide
import Derived.Deep.OwnRows
import Derived.Deep.Onto
import Derived.OwnWalk
import Derived.Maps.AppendAt
import Derived.RegionTactic
import Derived.Laws.Cells
import Derived.Laws.BytesString
import Derived.Laws.CopyRow
import Derived.IntWalk
namespace Go.Proofs.YtkclaipnejgloaaGreatDoor
open Go.RowKit
def Same (w w' : World) : Prop := ∃ n,w' = w.drewN n
theorem Same.refl (w : World) : Same w w:=⟨0,rfl⟩
theorem Same.trans {a b c : World} (h : Same a b) (k : Same b c) : Same a c:=by
 obtain ⟨n,rfl⟩:=h; obtain ⟨m,rfl⟩:=k; exact ⟨n + m,World.drewN_drewN _ _ _⟩
theorem Same.drewN {a b : World} (h : Same a b) (n : Nat) : Same a (b.drewN n):=h.trans ⟨n,rfl⟩
theorem Same.drew {a b : World} (h : Same a b) : Same a b.drew:=h.trans ⟨1,rfl⟩
theorem Same.below {a b : World} (B : Nat) (h : Same a b) : Below B a b:=by
 obtain ⟨n,rfl⟩:=h; exact ⟨rfl,rfl,rfl,Nat.le_refl _,fun _ _ => rfl⟩
theorem Same.size {a b : World} (h : Same a b) : b.heap.size = a.heap.size:=by obtain ⟨n,rfl⟩:=h; rfl
theorem Same.cell {a b : World} (h : Same a b) (p : Addr) : b.cell? p = a.cell? p:=by obtain ⟨n,rfl⟩:=h; rfl
theorem Qu (w : World) (o : Obj) : Below w.heap.size w (w.alloc o):=(Below.refl _ _).alloc (Nat.le_refl _) _
def JH (w : World) (size : Nat) (v : Value) (n : Nat) (xs : List Value) : Prop :=
 ∃ A c,v = .slice A n c ∧ n <= 9223372036854775807 ∧ xs.length = n * size ∧ (0 < n -> ∃ b off,A = some ⟨b,off,none⟩ ∧ ∀ j u,xs[j]? = some u -> w.cell? ⟨b,off + j,none⟩ = some u)
theorem JH.keep {w w' : World} {size n : Nat} {v : Value} {xs : List Value} (h : JH w size v n xs) (hb : Below w.heap.size w w') : JH w' size v n xs:=by
 obtain ⟨A,c,rfl,hc,hx,hi⟩:=h
 refine ⟨A,c,rfl,hc,hx,fun hn => ?_⟩
 obtain ⟨b,off,rfl,hcell⟩:=hi hn
 refine ⟨b,off,rfl,fun j u hu => ?_⟩
 have h0:=hcell j u hu
 rw [hb.cell (p:=⟨b,off + j,none⟩) (World.block_lt_of_cell? _ _ h0)]
 exact h0
def Ints (w : World) (v : Value) (l : List Int) : Prop:=JH w 1 v l.length (l.map (Value.int .i64))
theorem Ints.keep {w w' : World} {v : Value} {l : List Int} (h : Ints w v l) (hb : Below w.heap.size w w') : Ints w' v l:=JH.keep h hb
theorem Ints.same {w w' : World} {v : Value} {l : List Int} (h : Ints w v l) (hs : Same w w') : Ints w' v l:=h.keep (hs.below _)
theorem Ints.drewN {w : World} {v : Value} {l : List Int} (h : Ints w v l) (n : Nat) : Ints (w.drewN n) v l:=h
theorem Ints.at_ {w : World} {v : Value} {l : List Int} (h : Ints w v l) : ∃ A c,v = .slice A l.length c ∧ l.length <= 9223372036854775807 ∧
  (0 < l.length -> ∃ b off,A = some ⟨b,off,none⟩ ∧ ∀ j (hj : j < l.length),w.cell? ⟨b,off + j,none⟩ = some (.int .i64 l[j])):=by
 obtain ⟨A,c,rfl,hc,hx,hi⟩:=h
 refine ⟨A,c,rfl,hc,fun hk => ?_⟩
 obtain ⟨b,off,rfl,hcell⟩:=hi (by omega)
 exact ⟨b,off,rfl,fun j hj => hcell j _ (by simp [hj])⟩
theorem Ints.form {w : World} {v : Value} {l : List Int} (h : Ints w v l) : ∃ A c,v = .slice A l.length c:=by
 obtain ⟨A,c,e,_⟩:=h.at_
 exact ⟨A,c,e⟩
def Ly (w : World) (v : Value) (ll : List (List Int)) : Prop :=
 ∃ vs : List Value,JH w 1 v ll.length vs ∧ ∀ i (hi : i < ll.length),∃ u,vs[i]? = some u ∧ Ints w u ll[i]
theorem Ly.keep {w w' : World} {v : Value} {l : List (List Int)} (h : Ly w v l) (hb : Below w.heap.size w w') : Ly w' v l:=by
 obtain ⟨vs,h1,h2⟩:=h
 exact ⟨vs,h1.keep hb,fun i hi => let ⟨u,hu,hr⟩:=h2 i hi; ⟨u,hu,hr.keep hb⟩⟩
theorem Ly.same {w w' : World} {v : Value} {l : List (List Int)} (h : Ly w v l) (hs : Same w w') : Ly w' v l:=h.keep (hs.below _)
theorem Ly.at_ {w : World} {v : Value} {l : List (List Int)} (h : Ly w v l) : ∃ A c,v = .slice A l.length c ∧ l.length <= 9223372036854775807 ∧
  (0 < l.length -> ∃ b off,A = some ⟨b,off,none⟩ ∧ ∀ j (hj : j < l.length),∃ A' c',w.cell? ⟨b,off + j,none⟩ = some (.slice A' l[j].length c') ∧ Ints w (.slice A' l[j].length c') l[j]):=by
 obtain ⟨vs,⟨A,c,rfl,hc,hx,hi⟩,h2⟩:=h
 refine ⟨A,c,rfl,hc,fun hk => ?_⟩
 obtain ⟨b,off,rfl,hcell⟩:=hi (by omega)
 refine ⟨b,off,rfl,fun j hj => ?_⟩
 obtain ⟨u,hu,hr⟩:=h2 j hj
 have hr':=hr
 obtain ⟨A',c',rfl,_,_⟩:=hr'
 exact ⟨A',c',hcell j _ hu,hr⟩
theorem Ly.form {w : World} {v : Value} {l : List (List Int)} (h : Ly w v l) : ∃ A c,v = .slice A l.length c:=by
 obtain ⟨A,c,e,_⟩:=h.at_
 exact ⟨A,c,e⟩
def inB (n low high : Int) : Bool:=decide (low <= n) && decide (n <= high)
def vals (l : List Int) : Bool:=l.all fun x => inB x 0 99
end Go.Proofs.YtkclaipnejgloaaGreatDoor
namespace Go.Proofs.YtkclaipnejgloaaGreatDoor
open Go.RowKit
theorem KZ {a w : World} (h : Below a.heap.size a w) (row : Option Nat) : a.grownBy w row:=⟨h.os,h.tape,h.output,h.size,fun i hi _ => h.block i hi⟩
section
variable {w w' : World} {base : Nat} {e : TypeId} {size : Nat} {v : Value} {n : Nat} {xs : List Value}
theorem Nj (h : w.ownsRow base e size v n xs) (hb : Below w.heap.size w w') : w'.ownsRow base e size v n xs:=by
 cases hv : v.ownBlock with
 | none => exact h.kept (KZ hb none) (.inl hv)
 | some g => exact h.kept (KZ hb none) (.inr (by rw [hv]; simp))
theorem JH.Lb (h : w.ownsRow base e size v n xs) : JH w size v n xs:=by
 rcases h.2 with ⟨rfl,rfl⟩ | ⟨g,cap,cur,rfl,_,hh,hnc,hm,hsz,hx⟩
 ·exact ⟨none,0,rfl,by omega,h.1,fun h0 => absurd h0 (by omega)⟩
 ·refine ⟨some ⟨g,0,none⟩,cap,rfl,by unfold maxLen at hm; omega,h.1,fun _ => ⟨g,0,rfl,fun j u hu => ?_⟩⟩
  have hj : j < xs.length:=by
   rcases Nat.lt_or_ge j xs.length with h1 | h1
   ·exact h1
   ·rw [List.getElem?_eq_none h1] at hu; cases hu
  simp only [World.cell?,hh,Nat.zero_add]
  rw [<- hx,List.getElem?_take] at hu
  rw [h.1] at hj
  rw [if_pos hj] at hu
  simpa using hu
theorem S8 (h : w.ownsRow base e size v n xs) : ∃ A c,v = .slice A n c:=by
 rcases h.2 with ⟨rfl,rfl⟩ | ⟨g,cap,cur,rfl,_⟩
 ·exact ⟨_,_,rfl⟩
 ·exact ⟨_,_,rfl⟩
end
theorem Ints.Lb {w : World} {base : Nat} {t : TypeId} {v : Value} {l : List Int} (h : w.ownsRow base t 1 v l.length (l.map (Value.int .i64))) : Ints w v l:=JH.Lb h
def Apart (u v : Value) : Prop := ∀ g,u.ownBlock = some g -> v.ownBlock ≠ some g
theorem Apart.symm {u v : Value} (h : Apart u v) : Apart v u:=fun g h1 h2 => h g h2 h1
def Own2 (t : TypeId) (w : World) (base : Nat) (vs : List Value) (ll : List (List Int)) : Prop :=
 vs.length = ll.length ∧ (∀ (j : Nat) (u : Value) (l : List Int),vs[j]? = some u -> ll[j]? = some l -> w.ownsRow base t 1 u l.length (l.map (Value.int .i64))) ∧ vs.Pairwise Apart
section
variable {t tl : TypeId} {w w' : World} {base : Nat} {vs : List Value} {ll : List (List Int)} {v : Value}
theorem Own2.nil (t : TypeId) (w : World) (base : Nat) : Own2 t w base [] []:=⟨rfl,by simp,List.Pairwise.nil⟩
theorem Own2.keep (h : Own2 t w base vs ll) (hb : Below w.heap.size w w') : Own2 t w' base vs ll:=⟨h.1,fun j u l hu hl => Nj (h.2.1 j u l hu hl) hb,h.2.2⟩
theorem Own2.lt (h : Own2 t w base vs ll) : ∀ u ∈ vs,∀ g,u.ownBlock = some g -> base <= g ∧ g < w.heap.size:=by
 intro u hu g hg
 obtain ⟨j,hj,rfl⟩:=List.mem_iff_getElem.1 hu
 exact (h.2.1 j _ _ (List.getElem?_eq_getElem hj) (List.getElem?_eq_getElem (by rw [<- h.1]; exact hj))).lt g hg
theorem Own2.mono (h : Own2 t w base vs ll) {base' : Nat} (hb : base' <= base) : Own2 t w base' vs ll:=⟨h.1,fun j u l hu hl => (h.2.1 j u l hu hl).mono hb,h.2.2⟩
def G4 (t tl : TypeId) (w : World) (base : Nat) (v : Value) (ll : List (List Int)) : Prop :=
 ∃ vs,w.ownsRow base tl 1 v ll.length vs ∧ Own2 t w base vs ll
theorem G4.mono (h : G4 t tl w base v ll) {base' : Nat} (hb : base' <= base) : G4 t tl w base' v ll:=by
 obtain ⟨vs,h1,h2⟩:=h
 exact ⟨vs,h1.mono hb,h2.mono hb⟩
theorem G4.form (h : G4 t tl w base v ll) : ∃ A c,v = .slice A ll.length c:=by
 obtain ⟨vs,h1,_⟩:=h
 rcases h1.2 with ⟨rfl,h0⟩ | ⟨g,cap,cur,rfl,_⟩
 ·exact ⟨none,0,by rw [h0]⟩
 ·exact ⟨_,_,rfl⟩
theorem G4.keep (h : G4 t tl w base v ll) (hb : Below w.heap.size w w') : G4 t tl w' base v ll:=by
 obtain ⟨vs,h1,h2⟩:=h
 exact ⟨vs,Nj h1 hb,h2.keep hb⟩
theorem Ly.Lb (h : G4 t tl w base v ll) : Ly w v ll:=by
 obtain ⟨vs,h1,h2⟩:=h
 refine ⟨vs,JH.Lb h1,fun i hi => ?_⟩
 have hi' : i < vs.length:=by rw [h2.1]; exact hi
 exact ⟨vs[i],List.getElem?_eq_getElem hi',Ints.Lb (h2.2.1 i _ _ (List.getElem?_eq_getElem hi') (List.getElem?_eq_getElem hi))⟩
end
structure Fr (lo hi : Nat) (w w' : World) : Prop where
 os : w'.os = w.os
 tape : w'.tape = w.tape
 output : w'.output = w.output
 size : w.heap.size <= w'.heap.size
 block : ∀ k,k < w.heap.size -> (k < lo ∨ hi <= k) -> w'.heap[k]? = w.heap[k]?
theorem Fr.refl (lo hi : Nat) (w : World) : Fr lo hi w w:=⟨rfl,rfl,rfl,Nat.le_refl _,fun _ _ _ => rfl⟩
theorem Fr.trans {lo hi : Nat} {a b c : World} (h : Fr lo hi a b) (k : Fr lo hi b c) : Fr lo hi a c :=
 ⟨k.os.trans h.os,k.tape.trans h.tape,k.output.trans h.output,Nat.le_trans h.size k.size,fun i hi' ho => (k.block i (Nat.lt_of_lt_of_le hi' h.size) ho).trans (h.block i hi' ho)⟩
theorem Fr.grown {lo hi : Nat} {a b : World} {row : Option Nat} (h : a.grownBy b row) (hr : ∀ g,row = some g -> lo <= g ∧ g < hi) : Fr lo hi a b :=
 ⟨h.os,h.tape,h.output,h.size,fun i hi' ho => h.block i hi' (fun e => by have:=hr i e.symm; omega)⟩
theorem Fr.setCell {lo hi : Nat} {a b : World} (h : Fr lo hi a b) {p : Addr} (hp : lo <= p.block ∧ p.block < hi) (u : Value) : Fr lo hi a (b.setCell p u) :=
 h.trans ⟨rfl,rfl,rfl,by simp [World.setCell],fun k _ ho => Below.heap_setCell _ _ _ _ (by omega)⟩
theorem Fr.below {lo hi : Nat} {a b : World} (h : Below a.heap.size a b) : Fr lo hi a b:=⟨h.os,h.tape,h.output,h.size,fun i hi' _ => h.block i hi'⟩
theorem Fr.toBelow {lo hi : Nat} {a b : World} (h : Fr lo hi a b) (hl : lo <= a.heap.size) : Below lo a b:=⟨h.os,h.tape,h.output,h.size,fun i hi' => h.block i (by omega) (.inl hi')⟩
theorem Fr.own {lo hi : Nat} {w w' : World} {base : Nat} {e : TypeId} {size : Nat} {v : Value} {n : Nat} {xs : List Value} (h : Fr lo hi w w') (ho : w.ownsRow base e size v n xs)
  (hv : ∀ g,v.ownBlock = some g -> g < lo ∨ hi <= g) : w'.ownsRow base e size v n xs:=by
 rcases ho.2 with ⟨rfl,rfl⟩ | ⟨g,cap,cur,rfl,hb,hh,r⟩
 ·exact ⟨ho.1,.inl ⟨rfl,rfl⟩⟩
 ·refine ⟨ho.1,.inr ⟨g,cap,cur,rfl,hb,?_,r⟩⟩
  rw [h.block g (by
   rcases Nat.lt_or_ge g w.heap.size with h1 | h1
   ·exact h1
   ·rw [Array.getElem?_eq_none h1] at hh; cases hh) (hv g rfl)]
  exact hh
structure FrS (S : Nat -> Prop) (w w' : World) : Prop where
 os : w'.os = w.os
 tape : w'.tape = w.tape
 output : w'.output = w.output
 size : w.heap.size <= w'.heap.size
 block : ∀ k,k < w.heap.size -> ¬ S k -> w'.heap[k]? = w.heap[k]?
theorem FrS.refl (S : Nat -> Prop) (w : World) : FrS S w w:=⟨rfl,rfl,rfl,Nat.le_refl _,fun _ _ _ => rfl⟩
theorem FrS.trans {S : Nat -> Prop} {a b c : World} (h : FrS S a b) (k : FrS S b c) : FrS S a c :=
 ⟨k.os.trans h.os,k.tape.trans h.tape,k.output.trans h.output,Nat.le_trans h.size k.size,fun i hi' ho => (k.block i (Nat.lt_of_lt_of_le hi' h.size) ho).trans (h.block i hi' ho)⟩
theorem FrS.mono {S T : Nat -> Prop} {a b : World} (h : FrS S a b) (hs : ∀ g,S g -> T g) : FrS T a b:=⟨h.os,h.tape,h.output,h.size,fun i hi ho => h.block i hi (fun hS => ho (hs i hS))⟩
theorem FrS.grown {S : Nat -> Prop} {a b : World} {row : Option Nat} (h : a.grownBy b row) (hr : ∀ g,row = some g -> S g) : FrS S a b :=
 ⟨h.os,h.tape,h.output,h.size,fun i hi' ho => h.block i hi' (fun e => ho (hr i e.symm))⟩
theorem FrS.below {S : Nat -> Prop} {a b : World} (h : Below a.heap.size a b) : FrS S a b:=⟨h.os,h.tape,h.output,h.size,fun i hi' _ => h.block i hi'⟩
theorem FrS.toBelow {S : Nat -> Prop} {a b : World} {B : Nat} (h : FrS S a b) (hB : B <= a.heap.size) (hl : ∀ g,S g -> B <= g) : Below B a b :=
 ⟨h.os,h.tape,h.output,h.size,fun i hi' => h.block i (by omega) (fun hs => by have:=hl i hs; omega)⟩
theorem FrS.cell {S : Nat -> Prop} {a b : World} (h : FrS S a b) {p : Addr} (hp : p.block < a.heap.size) (hn : ¬ S p.block) : b.cell? p = a.cell? p:=World.cell?_of_block (h.block _ hp hn)
theorem FrS.own {S : Nat -> Prop} {w w' : World} {base : Nat} {e : TypeId} {size : Nat} {v : Value} {n : Nat} {xs : List Value} (h : FrS S w w') (ho : w.ownsRow base e size v n xs)
  (hv : ∀ g,v.ownBlock = some g -> ¬ S g) : w'.ownsRow base e size v n xs:=by
 rcases ho.2 with ⟨rfl,rfl⟩ | ⟨g,cap,cur,rfl,hb,hh,r⟩
 ·exact ⟨ho.1,.inl ⟨rfl,rfl⟩⟩
 ·refine ⟨ho.1,.inr ⟨g,cap,cur,rfl,hb,?_,r⟩⟩
  rw [h.block g (by
   rcases Nat.lt_or_ge g w.heap.size with h1 | h1
   ·exact h1
   ·rw [Array.getElem?_eq_none h1] at hh; cases hh) (hv g rfl)]
  exact hh
def Iz (t : TypeId) (w : World) (S : Nat -> Prop) (v : Value) (l : List Int) : Prop:=w.ownsRow 0 t 1 v l.length (l.map (Value.int .i64)) ∧ ∀ g,v.ownBlock = some g -> S g
def Hc (t tl : TypeId) (w : World) (S : Nat -> Prop) (v : Value) (ll : List (List Int)) : Prop :=
 ∃ vs,w.ownsRow 0 tl 1 v ll.length vs ∧ Own2 t w 0 vs ll ∧ (∀ g,v.ownBlock = some g -> S g) ∧ ∀ u ∈ vs,∀ g,u.ownBlock = some g -> S g
section
variable {t tl : TypeId} {w w' : World} {S S' : Nat -> Prop} {v : Value} {l : List Int} {ll : List (List Int)}
theorem Iz.keep (h : Iz t w S v l) (hb : Below w.heap.size w w') : Iz t w' S v l:=⟨Nj h.1 hb,h.2⟩
theorem Iz.fr (h : Iz t w S v l) (hf : FrS S' w w') (hd : ∀ g,S g -> ¬ S' g) : Iz t w' S v l:=⟨hf.own h.1 (fun g hg => hd g (h.2 g hg)),h.2⟩
theorem Iz.rd (h : Iz t w S v l) : Ints w v l:=Ints.Lb h.1
theorem Iz.form (h : Iz t w S v l) : ∃ A c,v = .slice A l.length c:=S8 h.1
theorem Iz.mono (h : Iz t w S v l) (hs : ∀ g,S g -> S' g) : Iz t w S' v l:=⟨h.1,fun g hg => hs g (h.2 g hg)⟩
theorem Hc.keep (h : Hc t tl w S v ll) (hb : Below w.heap.size w w') : Hc t tl w' S v ll:=by
 obtain ⟨vs,h1,h2,h3⟩:=h
 exact ⟨vs,Nj h1 hb,h2.keep hb,h3⟩
theorem Hc.fr (h : Hc t tl w S v ll) (hf : FrS S' w w') (hd : ∀ g,S g -> ¬ S' g) : Hc t tl w' S v ll:=by
 obtain ⟨vs,h1,h2,h3,h4⟩:=h
 exact ⟨vs,hf.own h1 (fun g hg => hd g (h3 g hg)),⟨h2.1,fun j u l hu hl => hf.own (h2.2.1 j u l hu hl) (fun g hg => hd g (h4 u (List.mem_of_getElem? hu) g hg)),h2.2.2⟩,h3,h4⟩
theorem Hc.rd (h : Hc t tl w S v ll) : Ly w v ll:=by
 obtain ⟨vs,h1,h2,_⟩:=h
 exact Ly.Lb ⟨vs,h1,h2⟩
theorem Hc.form (h : Hc t tl w S v ll) : ∃ A c,v = .slice A ll.length c:=by
 obtain ⟨vs,h1,_⟩:=h
 exact S8 h1
theorem Hc.mono (h : Hc t tl w S v ll) (hs : ∀ g,S g -> S' g) : Hc t tl w S' v ll:=by
 obtain ⟨vs,h1,h2,h3,h4⟩:=h
 exact ⟨vs,h1,h2,fun g hg => hs g (h3 g hg),fun u hu g hg => hs g (h4 u hu g hg)⟩
theorem Hc.Lb {base : Nat} (h : G4 t tl w base v ll) : Hc t tl w (fun g => base <= g ∧ g < w.heap.size) v ll:=by
 obtain ⟨vs,h1,h2⟩:=h
 exact ⟨vs,h1.mono (by omega),h2.mono (by omega),fun g hg => h1.lt g hg,fun u hu g hg => h2.lt u hu g hg⟩
theorem Iz.Lb {base : Nat} (h : w.ownsRow base t 1 v l.length (l.map (Value.int .i64))) : Iz t w (fun g => base <= g ∧ g < w.heap.size) v l:=⟨h.mono (by omega),fun g hg => h.lt g hg⟩
end
theorem JH.drop_at {w : World} {size : Nat} {A : Option Addr} {m c : Nat} {news : List Value} (h : JH w size (.slice A m c) m news) :
  news.length = m * size ∧ (A = none -> m = 0) ∧ ∀ ad,A = some ad -> ∀ j u,news[j]? = some u -> w.cell? (ad.add j) = some u:=by
 obtain ⟨A',c',he,_,hl,hi⟩:=h
 injection he with h1 _ h2
 subst h1
 refine ⟨hl,fun h0 => ?_,fun ad had j u hu => ?_⟩
 ·rcases Nat.eq_zero_or_pos m with hm | hm
  ·exact hm
  ·obtain ⟨b,off,hb,_⟩:=hi hm
   rw [h0] at hb; cases hb
 ·rcases Nat.eq_zero_or_pos m with hm | hm
  ·subst hm
   have : news = []:=List.eq_nil_of_length_eq_zero (by simpa using hl)
   subst this
   simp at hu
  ·obtain ⟨b,off,hb,hc⟩:=hi hm
   rw [had] at hb
   injection hb with hb
   subst hb
   have:=hc j u hu
   unfold Addr.add
   by_cases hj : j = 0
   ·subst hj; simpa using this
   ·simpa [hj] using this
theorem JH.one (w : World) (x : Value) (t : TypeId) : JH (w.alloc (.cells #[x] t)) 1 (.slice (some ⟨w.heap.size,0,none⟩) 1 1) 1 [x]:=by
 refine ⟨_,_,rfl,by omega,rfl,fun _ => ⟨_,_,rfl,fun j u hu => ?_⟩⟩
 have hj : j = 0:=by
  rcases Nat.eq_zero_or_pos j with h0 | h0
  ·exact h0
  ·rw [List.getElem?_eq_none (by simp; omega)] at hu; cases hu
 subst hj
 simp only [List.getElem?_cons_zero,Option.some.injEq] at hu
 subst hu
 rw [cell_of_row _ _ _ _ _ _ (heap_alloc_new w _)]
 rfl
def jS (w : World) (v v' : Value) : Prop := ∀ g,v'.ownBlock = some g -> v.ownBlock = some g ∨ w.heap.size <= g
theorem jS.apart {w : World} {v v' u : Value} (h : jS w v v') (ha : Apart v u) (hu : ∀ g,u.ownBlock = some g -> g < w.heap.size) : Apart v' u:=by
 intro g hg hg'
 rcases h g hg with h1 | h1
 ·exact ha g h1 hg'
 ·have:=hu g hg'; omega
theorem Apart.far {v u : Value} (ha : Apart v u) : u.ownBlock = none ∨ u.ownBlock ≠ v.ownBlock:=by
 cases hu : u.ownBlock with
 | none => exact .inl rfl
 | some g => exact .inr fun e => ha g e.symm hu
theorem G4.nil (t tl : TypeId) (w : World) (base : Nat) : G4 t tl w base (.slice none 0 0) []:=⟨[],World.ownsRow_nil _ _ _ _,Own2.nil _ _ _⟩
end Go.Proofs.YtkclaipnejgloaaGreatDoor
namespace Go.Proofs.YtkclaipnejgloaaGreatDoor
open Go.RowKit
set_option linter.unusedVariables false
inductive V where
 | int (k : IntKind) (n : Int)
 | bool (b : Bool)
 | str (s : List UInt8)
  | own (e : TypeId) (n : Nat) (cs : List V)
  | dat (n : Nat) (cs : List V)
  | arg (n : Nat) (cs : List V)
  | pin (u : Value) (n : Nat) (cs : List V)
 | agg (cs : List V)
 | tup (cs : List V)
  | box (cs : List V)
  | uni (e : TypeId) (n : Nat) (cs : List V)
  | same (s : Nat)
  | cref (s off : Nat)
  | adr (cs : List V) (off : Nat)
  | gh (us : List Value) (cs : List V)
  | fn (f : FuncId)
  | tok (u : Value)
 | undef
def V.Fq : V -> Bool
 | .int .. | .bool .. | .str .. | .own .. | .dat .. | .arg .. | .pin .. | .fn .. | .tok .. => true
 | _ => false
def csz (P : Program) (e : TypeId) : Nat:=((P.info? e).map (·.size)).getD 0
def lim : Nat:=1099511627776
theorem Au {n : Nat} (h : n <= lim) : n <= maxLen:=by unfold lim at h; unfold maxLen; omega
section
variable (w : World) (St : Nat -> Nat -> Prop)
mutual
def Rd : V -> Value -> Prop
 | .int k n,v => v = .int k n
 | .bool b,v => v = .bool b
 | .str s,v => v = .string ⟨s.toArray⟩ ∧ s.length <= maxLen
 | .own _ n cs,v => n <= maxLen ∧ ∃ A c,v = .slice A n c ∧ n <= c ∧ (0 < n -> ∃ b off,A = some ⟨b,off,none⟩ ∧ Cg b off cs) ∧ (n = 0 -> cs = [])
 | .dat n cs,v => n <= maxLen ∧ ∃ A c,v = .slice A n c ∧ n <= c ∧ (0 < n -> ∃ b off,A = some ⟨b,off,none⟩ ∧ Cg b off cs) ∧ (n = 0 -> cs = [])
 | .pin u n cs,v => v = u ∧ n <= maxLen ∧ ∃ A c,v = .slice A n c ∧ n <= c ∧ (0 < n -> ∃ b off,A = some ⟨b,off,none⟩ ∧ Cg b off cs) ∧ (n = 0 -> cs = [])
 | .arg n cs,v => n <= maxLen ∧ ∃ A c,v = .slice A n c ∧ n <= c ∧ (0 < n -> ∃ b off,A = some ⟨b,off,none⟩ ∧ (cs ≠ [] -> ∀ o,St b o) ∧ Cg b off cs) ∧ (n = 0 -> cs = [])
 | .fn f,v => v = .func (.func f) #[] #[]
 | .tok u,v => v = u ∧ u.oneCell' = true
 | _,_ => False
def Cg (b : Nat) : Nat -> List V -> Prop
 | _,[] => True
 | off,c :: cs => (St b off ∧ ∃ u,w.cell? ⟨b,off,none⟩ = some u ∧ Rd c u) ∧ Cg b (off + 1) cs
end
def RdL : List V -> List Value -> Prop
 | [],us => us = []
 | c :: cs,us => ∃ u us',us = u :: us' ∧ Rd w St c u ∧ RdL cs us'
def RdA : V -> Value -> Prop
 | .agg cs,v => ∃ us : List Value,v = .agg us.toArray ∧ RdL w St cs us
 | c,v => Rd w St c v
end
def Ext (St : Nat -> Nat -> Prop) (w w' : World) : Prop := ∀ b o,St b o -> w'.cell? ⟨b,o,none⟩ = w.cell? ⟨b,o,none⟩
section
variable {w w' : World} {St St' : Nat -> Nat -> Prop}
mutual
theorem Rd.mono (hs : ∀ b o,St b o -> St' b o) (he : Ext St w w') : ∀ (c : V) {v : Value},Rd w St c v -> Rd w' St' c v
 | .int _ _,_,h => h
 | .bool _,_,h => h
 | .str _,_,h => h
 | .own _ _ cs,_,⟨hn,A,c,e,hc,h,h0⟩ => ⟨hn,A,c,e,hc,fun hp => let ⟨b,off,ea,hr⟩:=h hp; ⟨b,off,ea,Cg.mono hs he b off cs hr⟩,h0⟩
 | .dat _ cs,_,⟨hn,A,c,e,hc,h,h0⟩ => ⟨hn,A,c,e,hc,fun hp => let ⟨b,off,ea,hr⟩:=h hp; ⟨b,off,ea,Cg.mono hs he b off cs hr⟩,h0⟩
 | .pin _ _ cs,_,⟨hu,hn,A,c,e,hc,h,h0⟩ => ⟨hu,hn,A,c,e,hc,fun hp => let ⟨b,off,ea,hr⟩:=h hp; ⟨b,off,ea,Cg.mono hs he b off cs hr⟩,h0⟩
 | .arg _ cs,_,⟨hn,A,c,e,hc,h,h0⟩ => ⟨hn,A,c,e,hc,fun hp => let ⟨b,off,ea,hw,hr⟩:=h hp; ⟨b,off,ea,fun hc o => hs b o (hw hc o),Cg.mono hs he b off cs hr⟩,h0⟩
 | .agg _,_,h => h.elim
 | .tup _,_,h => h.elim
 | .box _,_,h => h.elim
 | .uni _ _ _,_,h => h.elim
 | .same _,_,h => h.elim
 | .cref _ _,_,h => h.elim
 | .adr _ _,_,h => h.elim
 | .gh _ _,_,h => h.elim
 | .fn _,_,h => h
 | .tok _,_,h => h
 | .undef,_,h => h.elim
theorem Cg.mono (hs : ∀ b o,St b o -> St' b o) (he : Ext St w w') (b : Nat) : ∀ (off : Nat) (cs : List V),Cg w St b off cs -> Cg w' St' b off cs
 | _,[],_ => trivial
 | off,c :: cs,⟨⟨h1,u,hu,hr⟩,h2⟩ => ⟨⟨hs b off h1,u,(he b off h1).trans hu,Rd.mono hs he c hr⟩,Cg.mono hs he b (off + 1) cs h2⟩
end
theorem RdL.mono (hs : ∀ b o,St b o -> St' b o) (he : Ext St w w') : ∀ (cs : List V) {us : List Value},RdL w St cs us -> RdL w' St' cs us
 | [],_,h => h
 | c :: cs,_,⟨u,us',e,h1,h2⟩ => ⟨u,us',e,Rd.mono hs he c h1,RdL.mono hs he cs h2⟩
theorem RdA.mono (hs : ∀ b o,St b o -> St' b o) (he : Ext St w w') : ∀ (c : V) {v : Value},RdA w St c v -> RdA w' St' c v
 | .agg cs,_,⟨us,e,h⟩ => ⟨us,e,h.mono hs he⟩
 | .int _ _,_,h => h
 | .bool _,_,h => h
 | .str _,_,h => h
 | .own _ _ _,_,h => Rd.mono hs he _ h
 | .dat _ _,_,h => Rd.mono hs he _ h
 | .pin _ _ _,_,h => Rd.mono hs he _ h
 | .arg _ _,_,h => Rd.mono hs he _ h
 | .tup _,_,h => h.elim
 | .box _,_,h => h.elim
 | .uni _ _ _,_,h => h.elim
 | .same _,_,h => h.elim
 | .cref _ _,_,h => h.elim
 | .adr _ _,_,h => h.elim
 | .gh _ _,_,h => h.elim
 | .fn _,_,h => h
 | .tok _,_,h => h
 | .undef,_,h => h.elim
theorem Rd.oneCell {c : V} {v : Value} (h : Rd w St c v) : v.oneCell' = true:=by
 cases c <;> simp only [Rd] at h
 ·subst h; rfl
 ·subst h; rfl
 ·rw [h.1]; rfl
 all_goals first | (rw [h.1]; exact h.2) | (subst h; rfl) | (obtain ⟨_,A,c,rfl,_⟩:=h; rfl) | (obtain ⟨_,_,A,c,e,_⟩:=h; rw [e]; rfl)
theorem Rd.Fq {c : V} {v : Value} (h : Rd w St c v) : c.Fq = true:=by
 cases c <;> simp only [Rd] at h <;> rfl
theorem RdL.length : ∀ {cs : List V} {us : List Value},RdL w St cs us -> us.length = cs.length
 | [],_,h => by cases h; rfl
 | _ :: _,_,⟨_,_,e,_,h⟩ => by rw [e,List.length_cons,List.length_cons,RdL.length h]
theorem Cg.at_ {b : Nat} : ∀ {cs : List V} {off : Nat},Cg w St b off cs -> ∀ (j : Nat) (c : V),cs[j]? = some c -> St b (off + j) ∧ ∃ u,w.cell? ⟨b,off + j,none⟩ = some u ∧ Rd w St c u
 | [],_,_,j,c,h => by simp at h
 | d :: cs,off,h,0,c,e => by simp only [List.getElem?_cons_zero,Option.some.injEq] at e; subst e; exact h.1
 | d :: cs,off,h,j + 1,c,e => by
  have h2 : Cg w St b (off + 1) cs:=h.2
  have:=Cg.at_ h2 j c (by simpa using e)
  rw [show off + (j + 1) = off + 1 + j by omega]; exact this
theorem Cg.drop {b : Nat} : ∀ {cs : List V} {off : Nat} (k : Nat),Cg w St b off cs -> Cg w St b (off + k) (cs.drop k)
 | [],_,k,_ => by simp [Cg]
 | _ :: _,_,0,h => by simpa using h
 | _ :: cs,off,k + 1,h => by
  have:=Cg.drop (cs:=cs) (off:=off + 1) k h.2
  rw [show off + (k + 1) = off + 1 + k by omega]; simpa using this
theorem Cg.take {b : Nat} : ∀ {cs : List V} {off : Nat} (k : Nat),Cg w St b off cs -> Cg w St b off (cs.take k)
 | [],_,k,_ => by simp [Cg]
 | _ :: _,_,0,h => by simp [Cg]
 | _ :: cs,off,k + 1,h => by rw [List.take_succ_cons]; exact ⟨h.1,Cg.take (cs:=cs) k h.2⟩
theorem Cg.mk {b : Nat} : ∀ {cs : List V} {off : Nat},(∀ (j : Nat) (c : V),cs[j]? = some c -> St b (off + j) ∧ ∃ u,w.cell? ⟨b,off + j,none⟩ = some u ∧ Rd w St c u) -> Cg w St b off cs
 | [],_,_ => trivial
 | d :: cs,off,h => ⟨h 0 d rfl,Cg.mk fun j c e => by
   have:=h (j + 1) c (by simpa using e)
   rw [show off + 1 + j = off + (j + 1) by omega]; exact this⟩
theorem Cg.list {b : Nat} : ∀ {cs : List V} {off : Nat},Cg w St b off cs -> ∃ us : List Value,RdL w St cs us ∧ ∀ (j : Nat) (u : Value),us[j]? = some u -> w.cell? ⟨b,off + j,none⟩ = some u
 | [],_,_ => ⟨[],rfl,by simp⟩
 | c :: cs,off,⟨⟨_,u,hu,hr⟩,h2⟩ => by
  obtain ⟨us,h3,h4⟩:=Cg.list h2
  refine ⟨u :: us,⟨u,us,rfl,hr,h3⟩,fun j x hx => ?_⟩
  cases j with
  | zero => simp only [List.getElem?_cons_zero,Option.some.injEq] at hx; subst hx; exact hu
  | succ j => rw [show off + (j + 1) = off + 1 + j by omega]; exact h4 j x (by simpa using hx)
theorem RdL.get : ∀ {cs : List V} {us : List Value},RdL w St cs us -> ∀ (j : Nat) (c : V),cs[j]? = some c -> ∃ u,us[j]? = some u ∧ Rd w St c u
 | [],_,_,j,c,e => by simp at e
 | _ :: _,_,⟨u,us',e,h1,h2⟩,0,c,ec => by simp only [List.getElem?_cons_zero,Option.some.injEq] at ec; subst ec; exact ⟨u,by rw [e]; rfl,h1⟩
 | _ :: _,_,⟨u,us',e,h1,h2⟩,j + 1,c,ec => by rw [e]; simpa using RdL.get h2 j c (by simpa using ec)
theorem RdL.oneCell : ∀ {cs : List V} {us : List Value},RdL w St cs us -> ∀ u ∈ us,u.oneCell' = true
 | [],_,h,u,hu => by rw [show _ = [] from h] at hu; simp at hu
 | c :: cs,_,⟨x,us',e,h1,h2⟩,u,hu => by
  rw [e] at hu
  rcases List.mem_cons.1 hu with rfl | hu
  ·exact h1.oneCell
  ·exact RdL.oneCell h2 u hu
end
section
variable (P : Program) (w : World) (St : Nat -> Nat -> Prop)
mutual
def Ow : V -> Value -> List Nat -> Prop
 | .int k n,v,bs => bs = [] ∧ Rd w St (.int k n) v
 | .bool b,v,bs => bs = [] ∧ Rd w St (.bool b) v
 | .str s,v,bs => bs = [] ∧ Rd w St (.str s) v
 | .dat n cs,v,bs => bs = [] ∧ Rd w St (.dat n cs) v
 | .arg n cs,v,bs => bs = [] ∧ Rd w St (.arg n cs) v
 | .pin u n cs,v,bs => bs = [] ∧ Rd w St (.pin u n cs) v
 | .own e n cs,v,bs => n <= lim ∧ ∃ xs bs',w.ownsRow 0 e (csz P e) v n xs ∧ AC cs xs bs' ∧ bs = v.ownBlock.toList ++ bs' ∧ (∀ g,v.ownBlock = some g -> ∀ o,St g o ↔ o < n * csz P e) ∧ (n = 0 -> cs = [])
 | .agg cs,v,bs => ∃ us : List Value,v = .agg us.toArray ∧ AC cs us bs
 | .tup cs,v,bs => ∃ us : List Value,v = .tuple us.toArray ∧ IA cs us bs
 | .fn f,v,bs => bs = [] ∧ Rd w St (.fn f) v
 | .tok u,v,bs => bs = [] ∧ Rd w St (.tok u) v
 | _,_,_ => False
def AC : List V -> List Value -> List Nat -> Prop
 | [],us,bs => us = [] ∧ bs = []
 | c :: cs,us,bs => ∃ u us' b1 b2,us = u :: us' ∧ bs = b1 ++ b2 ∧ c.Fq = true ∧ Ow c u b1 ∧ AC cs us' b2
def IA : List V -> List Value -> List Nat -> Prop
 | [],us,bs => us = [] ∧ bs = []
 | c :: cs,us,bs => ∃ u us' b1 b2,us = u :: us' ∧ bs = b1 ++ b2 ∧ Ow c u b1 ∧ IA cs us' b2
end
end
section
variable {P : Program} {w w' : World} {St St' : Nat -> Nat -> Prop}
mutual
theorem Ow.mono (hs : ∀ b o,St b o -> St' b o) (he : Ext St w w') : ∀ (c : V) {v : Value} {bs : List Nat},Ow P w St c v bs -> (∀ g ∈ bs,w'.heap[g]? = w.heap[g]? ∧ ∀ o,St' g o ↔ St g o) -> Ow P w' St' c v bs
 | .int _ _,_,_,⟨h1,h2⟩,_ => ⟨h1,h2⟩
 | .bool _,_,_,⟨h1,h2⟩,_ => ⟨h1,h2⟩
 | .str _,_,_,⟨h1,h2⟩,_ => ⟨h1,h2⟩
 | .dat _ _,_,_,⟨h1,h2⟩,_ => ⟨h1,h2.mono hs he⟩
 | .arg _ _,_,_,⟨h1,h2⟩,_ => ⟨h1,h2.mono hs he⟩
 | .pin _ _ _,_,_,⟨h1,h2⟩,_ => ⟨h1,h2.mono hs he⟩
 | .own e n cs,v,bs,⟨hn,xs,bs',h1,h2,h3,h4,h5⟩,hb => by
  refine ⟨hn,xs,bs',?_,AC.mono hs he cs h2 (fun g hg => hb g (by rw [h3]; exact List.mem_append_right _ hg)),h3,fun g hg o => ?_,h5⟩
  ·refine ⟨h1.1,?_⟩
   rcases h1.2 with h | ⟨g,cap,cur,rfl,hg,hh,r⟩
   ·exact .inl h
   ·exact .inr ⟨g,cap,cur,rfl,hg,by rw [(hb g (by rw [h3]; simp [Value.ownBlock])).1]; exact hh,r⟩
  ·rw [(hb g (by rw [h3,hg]; simp)).2 o]; exact h4 g hg o
 | .agg cs,_,_,⟨us,e,h⟩,hb => ⟨us,e,AC.mono hs he cs h hb⟩
 | .tup cs,_,_,⟨us,e,h⟩,hb => ⟨us,e,IA.mono hs he cs h hb⟩
 | .box _,_,_,h,_ => h.elim
 | .uni _ _ _,_,_,h,_ => h.elim
 | .same _,_,_,h,_ => h.elim
 | .cref _ _,_,_,h,_ => h.elim
 | .adr _ _,_,_,h,_ => h.elim
 | .gh _ _,_,_,h,_ => h.elim
 | .fn _,_,_,⟨h1,h2⟩,_ => ⟨h1,h2⟩
 | .tok _,_,_,⟨h1,h2⟩,_ => ⟨h1,h2⟩
 | .undef,_,_,h,_ => h.elim
theorem AC.mono (hs : ∀ b o,St b o -> St' b o) (he : Ext St w w') : ∀ (cs : List V) {us : List Value} {bs : List Nat},AC P w St cs us bs -> (∀ g ∈ bs,w'.heap[g]? = w.heap[g]? ∧ ∀ o,St' g o ↔ St g o) -> AC P w' St' cs us bs
 | [],_,_,h,_ => h
 | c :: cs,_,_,⟨u,us',b1,b2,e1,e2,hc,h1,h2⟩,hb =>
  ⟨u,us',b1,b2,e1,e2,hc,Ow.mono hs he c h1 (fun g hg => hb g (by rw [e2]; exact List.mem_append_left _ hg)),AC.mono hs he cs h2 (fun g hg => hb g (by rw [e2]; exact List.mem_append_right _ hg))⟩
theorem IA.mono (hs : ∀ b o,St b o -> St' b o) (he : Ext St w w') : ∀ (cs : List V) {us : List Value} {bs : List Nat},IA P w St cs us bs -> (∀ g ∈ bs,w'.heap[g]? = w.heap[g]? ∧ ∀ o,St' g o ↔ St g o) -> IA P w' St' cs us bs
 | [],_,_,h,_ => h
 | c :: cs,_,_,⟨u,us',b1,b2,e1,e2,h1,h2⟩,hb =>
  ⟨u,us',b1,b2,e1,e2,Ow.mono hs he c h1 (fun g hg => hb g (by rw [e2]; exact List.mem_append_left _ hg)),IA.mono hs he cs h2 (fun g hg => hb g (by rw [e2]; exact List.mem_append_right _ hg))⟩
end
mutual
theorem Ow.rd : ∀ (c : V) {v : Value} {bs : List Nat},Ow P w St c v bs -> c.Fq = true -> Rd w St c v
 | .int _ _,_,_,h,_ => h.2
 | .bool _,_,_,h,_ => h.2
 | .str _,_,_,h,_ => h.2
 | .dat _ _,_,_,h,_ => h.2
 | .arg _ _,_,_,h,_ => h.2
 | .pin _ _ _,_,_,h,_ => h.2
 | .own e n cs,v,bs,⟨hn,xs,bs',h1,h2,h3,h4,h5⟩,_ => by
  have hl:=h1.1
  rcases h1.2 with ⟨rfl,rfl⟩ | ⟨g,cap,cur,rfl,hg,hh,hc,hm,hsz,hx⟩
  ·exact ⟨Au hn,none,0,rfl,Nat.le_refl _,fun h => absurd h (by omega),h5⟩
  ·refine ⟨Au hn,_,cap,rfl,hc,fun _ => ⟨g,0,rfl,?_⟩,h5⟩
   have hst:=h4 g rfl
   have hcell : ∀ (j : Nat) (u : Value),xs[j]? = some u -> St g j ∧ w.cell? ⟨g,j,none⟩ = some u:=by
    intro j u hu
    have hj : j < n * csz P e:=by
     rw [<- hl]
     rcases Nat.lt_or_ge j xs.length with h | h
     ·exact h
     ·rw [List.getElem?_eq_none h] at hu; cases hu
    refine ⟨(hst j).2 hj,?_⟩
    simp only [World.cell?,hh]
    rw [<- hx,List.getElem?_take,if_pos hj] at hu
    simpa using hu
   exact AC.dA cs 0 h2 (fun j u hu => by simpa using hcell j u hu)
 | .agg _,_,_,_,h => by cases h
 | .tup _,_,_,_,h => by cases h
 | .box _,_,_,h,_ => h.elim
 | .uni _ _ _,_,_,h,_ => h.elim
 | .same _,_,_,h,_ => h.elim
 | .cref _ _,_,_,h,_ => h.elim
 | .adr _ _,_,_,h,_ => h.elim
 | .gh _ _,_,_,h,_ => h.elim
 | .fn _,_,_,h,_ => h.2
 | .tok _,_,_,h,_ => h.2
 | .undef,_,_,h,_ => h.elim
theorem AC.dA {g : Nat} : ∀ (cs : List V) (off : Nat) {us : List Value} {bs : List Nat},AC P w St cs us bs -> (∀ (j : Nat) (u : Value),us[j]? = some u -> St g (off + j) ∧ w.cell? ⟨g,off + j,none⟩ = some u) -> Cg w St g off cs
 | [],_,_,_,_,_ => trivial
 | c :: cs,off,_,_,⟨u,us',b1,b2,e1,e2,hc,h1,h2⟩,hu => by
  have h0:=hu 0 u (by rw [e1]; rfl)
  refine ⟨⟨by simpa using h0.1,u,by simpa using h0.2,Ow.rd c h1 hc⟩,AC.dA cs (off + 1) h2 (fun j x hx => ?_)⟩
  have:=hu (j + 1) x (by rw [e1]; simpa using hx)
  rw [show off + 1 + j = off + (j + 1) by omega]; exact this
end
theorem AC.rdL : ∀ (cs : List V) {us : List Value} {bs : List Nat},AC P w St cs us bs -> RdL w St cs us
 | [],_,_,h => h.1
 | _ :: cs,_,_,⟨u,us',_,_,e1,_,hc,h1,h2⟩ => ⟨u,us',e1,Ow.rd _ h1 hc,AC.rdL cs h2⟩
theorem AC.length {cs : List V} {us : List Value} {bs : List Nat} (h : AC P w St cs us bs) : us.length = cs.length:=(AC.rdL cs h).length
end
def dg1 : V -> V
 | .own _ n cs => .dat n cs
 | c => c
def dg2 : V -> V
 | .agg cs => .agg (cs.map dg1)
 | c => dg1 c
def dg : V -> V
 | .tup cs => .tup (cs.map dg2)
 | c => dg2 c
section
variable {P : Program} {w w' : World} {St St' : Nat -> Nat -> Prop}
theorem Mv {c : V} (h : c.Fq = true) : (dg1 c).Fq = true:=by cases c <;> first | rfl | exact h
theorem Rd.TW {c : V} {v : Value} (h : Rd w St c v) : Rd w St (dg1 c) v:=by cases c <;> exact h
theorem Ow.TW {c : V} {v : Value} {bs : List Nat} (h : Ow P w St c v bs) (hc : c.Fq = true) : Ow P w St (dg1 c) v []:=by
 have hr:=(Ow.rd c h hc).TW
 cases c <;> first | exact ⟨rfl,hr⟩ | cases hc
theorem AC.TW : ∀ (cs : List V) {us : List Value} {bs : List Nat},AC P w St cs us bs -> AC P w St (cs.map dg1) us []
 | [],_,_,h => ⟨h.1,rfl⟩
 | c :: cs,_,_,⟨u,us',b1,b2,e1,e2,hc,h1,h2⟩ => ⟨u,us',[],[],e1,rfl,Mv hc,h1.TW hc,AC.TW cs h2⟩
theorem Ow.eF {c : V} {v : Value} {bs : List Nat} (h : Ow P w St c v bs) (hc : c.Fq = true ∨ ∃ cs,c = .agg cs) : Ow P w St (dg2 c) v []:=by
 rcases hc with hc | ⟨cs,rfl⟩
 ·have : dg2 c = dg1 c:=by cases c <;> first | rfl | cases hc
  rw [this]; exact h.TW hc
 ·obtain ⟨us,e,h⟩:=h
  exact ⟨us,e,h.TW⟩
def V.isArg : V -> Bool
 | .agg _ => true
 | c => c.Fq
theorem WI {c : V} (h : c.isArg = true) : c.Fq = true ∨ ∃ cs,c = .agg cs:=by
 cases c <;> first | exact .inl h | exact .inr ⟨_,rfl⟩
theorem Ow.Md {c : V} {v : Value} {bs : List Nat} (h : Ow P w St c v bs) (hc : c.isArg = true) : Ow P w St (dg2 c) v []:=h.eF (WI hc)
theorem Ow.rda {c : V} {v : Value} {bs : List Nat} (h : Ow P w St c v bs) (hc : c.isArg = true) : RdA w St c v:=by
 cases c <;> first | exact Ow.rd _ h hc | cases hc | skip
 obtain ⟨us,e,h⟩:=h
 exact ⟨us,e,h.rdL⟩
theorem IA.eF : ∀ (cs : List V) {us : List Value} {bs : List Nat},IA P w St cs us bs -> cs.all V.isArg = true -> IA P w St (cs.map dg2) us []
 | [],_,_,h,_ => ⟨h.1,rfl⟩
 | c :: cs,_,_,⟨u,us',b1,b2,e1,e2,h1,h2⟩,hc => by
  simp only [List.all_cons,Bool.and_eq_true] at hc
  exact ⟨u,us',[],[],e1,rfl,h1.Md hc.1,IA.eF cs h2 hc.2⟩
def V.isVal : V -> Bool
 | .tup cs => cs.all V.isArg
 | c => c.isArg
theorem Ow.deg {c : V} {v : Value} {bs : List Nat} (h : Ow P w St c v bs) (hc : c.isVal = true) : Ow P w St (dg c) v []:=by
 cases c <;> first | exact h.Md hc | cases hc | skip
 obtain ⟨us,e,h⟩:=h
 exact ⟨us,e,IA.eF _ h hc⟩
theorem Ow.jM {c : V} {v : Value} (h : Rd w St (dg1 c) v) : Ow P w St (dg1 c) v []:=by
 cases c <;> first | exact ⟨rfl,h⟩ | exact h.elim
theorem AC.dm : ∀ (cs : List V) {us : List Value},RdL w St cs us -> AC P w St (cs.map dg1) us []
 | [],_,h => ⟨h,rfl⟩
 | c :: cs,_,⟨u,us',e,h1,h2⟩ => ⟨u,us',[],[],e,rfl,Mv h1.Fq,Ow.jM h1.TW,AC.dm cs h2⟩
end
mutual
def er : V -> V
 | .own _ n cs => .dat n (erL cs)
 | .dat n cs => .dat n (erL cs)
 | .arg n cs => .dat n (erL cs)
 | .pin _ n cs => .dat n (erL cs)
 | .agg cs => .agg (erL cs)
 | .int k n => .int k n
 | .bool b => .bool b
 | .str s => .str s
 | .fn f => .fn f
 | .tok u => .tok u
 | _ => .undef
def erL : List V -> List V
 | [] => []
 | c :: cs => er c :: erL cs
end
section
variable {P : Program} {w w' : World} {St St' : Nat -> Nat -> Prop}
theorem PF {cs : List V} (h : cs = []) : erL cs = []:=by subst h; rfl
mutual
theorem Rd.erase : ∀ (c : V) {v : Value},Rd w St c v -> Rd w St (er c) v
 | .int _ _,_,h => h
 | .bool _,_,h => h
 | .str _,_,h => h
 | .own _ _ cs,_,⟨hn,A,c,e,hc,h,h0⟩ => ⟨hn,A,c,e,hc,fun hp => let ⟨b,off,ea,hr⟩:=h hp; ⟨b,off,ea,Cg.erase b off cs hr⟩,fun hz => PF (h0 hz)⟩
 | .dat _ cs,_,⟨hn,A,c,e,hc,h,h0⟩ => ⟨hn,A,c,e,hc,fun hp => let ⟨b,off,ea,hr⟩:=h hp; ⟨b,off,ea,Cg.erase b off cs hr⟩,fun hz => PF (h0 hz)⟩
 | .pin _ _ cs,_,⟨_,hn,A,c,e,hc,h,h0⟩ => ⟨hn,A,c,e,hc,fun hp => let ⟨b,off,ea,hr⟩:=h hp; ⟨b,off,ea,Cg.erase b off cs hr⟩,fun hz => PF (h0 hz)⟩
 | .arg _ cs,_,⟨hn,A,c,e,hc,h,h0⟩ => ⟨hn,A,c,e,hc,fun hp => let ⟨b,off,ea,_,hr⟩:=h hp; ⟨b,off,ea,Cg.erase b off cs hr⟩,fun hz => PF (h0 hz)⟩
 | .agg _,_,h => h.elim
 | .tup _,_,h => h.elim
 | .box _,_,h => h.elim
 | .uni _ _ _,_,h => h.elim
 | .same _,_,h => h.elim
 | .cref _ _,_,h => h.elim
 | .adr _ _,_,h => h.elim
 | .gh _ _,_,h => h.elim
 | .fn _,_,h => h
 | .tok _,_,h => h
 | .undef,_,h => h.elim
theorem Cg.erase (b : Nat) : ∀ (off : Nat) (cs : List V),Cg w St b off cs -> Cg w St b off (erL cs)
 | _,[],_ => trivial
 | off,c :: cs,⟨⟨h1,u,hu,hr⟩,h2⟩ => ⟨⟨h1,u,hu,Rd.erase c hr⟩,Cg.erase b (off + 1) cs h2⟩
end
theorem RdL.erase : ∀ (cs : List V) {us : List Value},RdL w St cs us -> RdL w St (erL cs) us
 | [],_,h => h
 | c :: cs,_,⟨u,us',e,h1,h2⟩ => ⟨u,us',e,Rd.erase c h1,RdL.erase cs h2⟩
theorem RdA.erase {c : V} {v : Value} (h : RdA w St c v) : RdA w St (er c) v:=by
 cases c <;> first | exact Rd.erase _ h | exact h.elim | skip
 obtain ⟨us,e,h⟩:=h
 exact ⟨us,e,h.erase⟩
end
end Go.Proofs.YtkclaipnejgloaaGreatDoor
namespace Go.Proofs.YtkclaipnejgloaaGreatDoor
open Go.RowKit
set_option linter.unusedVariables false
def upd {α : Type} (f : Nat -> α) (d : Nat) (x : α) : Nat -> α:=fun s => if s = d then x else f s
theorem upd_same {α : Type} (f : Nat -> α) (d : Nat) (x : α) : upd f d x d = x:=by simp [upd]
theorem upd_ne {α : Type} (f : Nat -> α) {d s : Nat} (x : α) (h : s ≠ d) : upd f d x s = f s:=by simp [upd,h]
abbrev PS:=Nat -> V
def tm (a : Act) (s : Nat) : Value:=a.tmps.getD s undef
theorem Yz (a : Act) (d : Nat) (v : Value) (h : d < a.tmps.size) : tm (a.put (some d) v) = upd (tm a) d v:=by
 funext s
 simp only [tm,Act.put,upd]
 by_cases e : s = d
 ·subst e; simp [h]
 ·simp only [if_neg e,Array.getD_eq_getD_getElem?]
  rw [Array.getElem?_setIfInBounds_ne (by omega)]
theorem size_put (a : Act) (d : Option Tmp) (v : Value) : (a.put d v).tmps.size = a.tmps.size:=by cases d <;> simp [Act.put]
theorem O9 (a : Act) (d : Option Tmp) (v : Value) : (a.put d v).defers = a.defers:=by cases d <;> simp [Act.put]
def Qw : Value -> Option Nat
 | .pointer (some ⟨g,0,none⟩) => some g
 | .slice (some ⟨g,0,none⟩) _ _ => some g
 | _ => none
def EM : V -> Option (List V)
 | .box cs => some cs
 | .uni _ _ cs => some cs
 | _ => none
def M6 (c : V) (cs : List V) : V:=match c with
 | .uni e n _ => .uni e n cs
 | _ => .box cs
theorem O6 (c : V) (cs : List V) : EM (M6 c cs) = some cs:=by cases c <;> rfl
def EB : V -> Option Nat
 | .cref b _ => some b
 | .same b => some b
 | _ => none
section
variable (P : Program) (w : World) (St : Nat -> Nat -> Prop) (t : Nat -> Value)
def A3 : V -> Value -> List Nat -> Prop
 | .undef,_,bs => bs = []
 | .box cs,v,bs => ∃ g T bs',∃ arr : Array Value,v = .pointer (some ⟨g,0,none⟩) ∧ w.heap[g]? = some (.cells arr T (0,0)) ∧ AC P w St cs arr.toList bs' ∧ bs = g :: bs' ∧ ∀ o,¬ St g o
 | .uni e n cs,v,bs => ∃ g bs',∃ arr : Array Value,v = .slice (some ⟨g,0,none⟩) n n ∧ w.heap[g]? = some (.cells arr e (0,0)) ∧ AC P w St cs arr.toList bs' ∧ bs = g :: bs' ∧ (∀ o,¬ St g o) ∧ n <= lim ∧ cs.length = n * csz P e
 | .same s,v,bs => bs = [] ∧ v = t s
 | .cref s off,v,bs => bs = [] ∧ ∃ g,Qw (t s) = some g ∧ v = .pointer (some ⟨g,off,none⟩)
 | .adr cs off,v,bs => bs = [] ∧ ∃ b o,v = .pointer (some ⟨b,o,none⟩) ∧ Cg w St b o (cs.drop off)
 | .int k n,v,bs => Ow P w St (.int k n) v bs
 | .bool b,v,bs => Ow P w St (.bool b) v bs
 | .str s,v,bs => Ow P w St (.str s) v bs
 | .own e n cs,v,bs => Ow P w St (.own e n cs) v bs
 | .dat n cs,v,bs => Ow P w St (.dat n cs) v bs
 | .arg n cs,v,bs => Ow P w St (.arg n cs) v bs
 | .pin u n cs,v,bs => Ow P w St (.pin u n cs) v bs
 | .gh us cs,_,bs => AC P w St cs us bs
 | .agg cs,v,bs => Ow P w St (.agg cs) v bs
 | .tup cs,v,bs => Ow P w St (.tup cs) v bs
 | .fn f,v,bs => Ow P w St (.fn f) v bs
 | .tok u,v,bs => Ow P w St (.tok u) v bs
end
section
variable {P : Program} {w w' : World} {St St' : Nat -> Nat -> Prop} {t t' : Nat -> Value}
theorem A3.ow {c : V} {v : Value} {bs : List Nat} (h : A3 P w St t c v bs) (hc : c.isVal = true) : Ow P w St c v bs:=by
 cases c <;> first | exact h | cases hc
theorem Ow.slot {c : V} {v : Value} {bs : List Nat} (h : Ow P w St c v bs) : A3 P w St t c v bs:=by
 cases c <;> first | exact h | exact h.elim
theorem A3.mono (hs : ∀ b o,St b o -> St' b o) (he : Ext St w w') {c : V} {v : Value} {bs : List Nat} (h : A3 P w St t c v bs)
  (hb : ∀ g ∈ bs,w'.heap[g]? = w.heap[g]? ∧ ∀ o,St' g o ↔ St g o) (ht : ∀ b,EB c = some b -> t' b = t b) : A3 P w' St' t' c v bs:=by
 cases c with
 | undef => exact h
 | box cs =>
  obtain ⟨g,T,bs',arr,e1,e2,h1,rfl,h2⟩:=h
  have hg:=hb g (by simp)
  exact ⟨g,T,bs',arr,e1,by rw [hg.1]; exact e2,h1.mono hs he _ (fun x hx => hb x (by simp [hx])),rfl,fun o ho => h2 o ((hg.2 o).1 ho)⟩
 | uni e n cs =>
  obtain ⟨g,bs',arr,e1,e2,h1,rfl,h2,h3⟩:=h
  have hg:=hb g (by simp)
  exact ⟨g,bs',arr,e1,by rw [hg.1]; exact e2,h1.mono hs he _ (fun x hx => hb x (by simp [hx])),rfl,fun o ho => h2 o ((hg.2 o).1 ho),h3⟩
 | same s => obtain ⟨e,h1⟩:=h; exact ⟨e,by rw [ht s rfl]; exact h1⟩
 | cref s off => obtain ⟨e,g,h1,h2⟩:=h; exact ⟨e,g,by rw [ht s rfl]; exact h1,h2⟩
 | adr cs off => obtain ⟨e,b,o,h1,h2⟩:=h; exact ⟨e,b,o,h1,Cg.mono hs he b o _ h2⟩
 | int k n => exact Ow.mono hs he _ h hb
 | bool k => exact Ow.mono hs he _ h hb
 | str k => exact Ow.mono hs he _ h hb
 | own e n cs => exact Ow.mono hs he _ h hb
 | dat n cs => exact Ow.mono hs he _ h hb
 | arg n cs => exact Ow.mono hs he _ h hb
 | pin u n cs => exact Ow.mono hs he _ h hb
 | gh us cs => exact AC.mono hs he _ h hb
 | agg cs => exact Ow.mono hs he _ h hb
 | tup cs => exact Ow.mono hs he _ h hb
 | fn f => exact Ow.mono hs he _ h hb
 | tok u => exact Ow.mono hs he _ h hb
end
structure Bs where
 K : Nat -> Prop
 pin : Option Value
instance : CoeFun Bs (fun _ => Nat -> Prop):=⟨Bs.K⟩
def OF : Nat:=1000000
def lays : List (Nat × List (IntKind × Int)):=[(0,[(.i64,1),(.i64,1)])]
def Glb (w : World) (St : Nat -> Nat -> Prop) : Prop := ∀ p ∈ lays,(∀ o,St p.1 o) ∧ ∀ i x,p.2[i]? = some x -> w.cell? ⟨p.1,i,none⟩ = some (.int x.1 x.2)
theorem Glb.of {w w' : World} {St St' : Nat -> Nat -> Prop} (h : Glb w St) (hS : ∀ b,(∀ o,St b o) -> ∀ o,St' b o) (hc : ∀ b o,(∀ o,St b o) -> w'.cell? ⟨b,o,none⟩ = w.cell? ⟨b,o,none⟩) : Glb w' St' :=
 fun p hp => ⟨hS _ (h p hp).1,fun i x hx => (hc _ _ (h p hp).1).trans ((h p hp).2 i x hx)⟩
theorem gg (h : lays = []) (w : World) (St : Nat -> Nat -> Prop) : Glb w St:=fun p hp => by rw [h] at hp; cases hp
structure HSim (P : Program) (nt : Nat) (bx : List Nat) (base : Bs) (St : Nat -> Nat -> Prop) (B : Nat -> List Nat) (hand : List Nat) (σ : PS) (a : Act) (w : World) : Prop where
 size : a.tmps.size = nt
 defers : a.defers = []
 slot : ∀ s,A3 P w St (tm a) (σ s) (tm a s) (B s)
 boxes : ∀ s cs,EM (σ s) = some cs -> s ∈ bx
 crefs : ∀ s b,EB (σ s) = some b -> ∃ cs,EM (σ b) = some cs
 nodup : ∀ s,(B s).Nodup
 apart : ∀ s t,s ≠ t -> ∀ g ∈ B s,g ∉ B t
 hnodup : hand.Nodup
 hapart : ∀ s,∀ g ∈ B s,g ∉ hand
 range : ∀ s,∀ g ∈ B s,¬ base g ∧ g < w.heap.size
 hrange : ∀ g ∈ hand,¬ base g ∧ g < w.heap.size
 st : ∀ b o,St b o -> b < w.heap.size
 gl : Glb w St
 pin : ∀ v,base.pin = some v -> tm a 0 = v ∧ 0 ∈ bx ∧ OF ∈ bx
section
variable {P : Program} {nt : Nat} {base : Bs} {bx : List Nat} {St St' : Nat -> Nat -> Prop} {B : Nat -> List Nat} {hand : List Nat} {σ : PS} {a : Act} {w w' : World}
theorem HSim.world (h : HSim P nt bx base St B hand σ a w) (hs : ∀ b o,St b o -> St' b o) (he : Ext St w w') (hz : w.heap.size <= w'.heap.size)
  (hb : ∀ s,∀ g ∈ B s,w'.heap[g]? = w.heap[g]? ∧ ∀ o,St' g o ↔ St g o) (hst : ∀ b o,St' b o -> b < w'.heap.size) : HSim P nt bx base St' B hand σ a w' :=
 { h with
  slot:=fun s => (h.slot s).mono hs he (hb s) (fun _ _ => rfl)
  range:=fun s g hg => ⟨(h.range s g hg).1,Nat.lt_of_lt_of_le (h.range s g hg).2 hz⟩
  hrange:=fun g hg => ⟨(h.hrange g hg).1,Nat.lt_of_lt_of_le (h.hrange g hg).2 hz⟩
  st:=hst
  gl:=h.gl.of (fun b hb o => hs b o (hb o)) (fun b o hb => he b o (hb o)) }
theorem HSim.less (h : HSim P nt bx base St B hand σ a w) {hand' : List Nat} (hn : hand'.Nodup) (hs : ∀ g ∈ hand',g ∈ hand) : HSim P nt bx base St B hand' σ a w :=
 { h with
  hnodup:=hn
  hapart:=fun s g hg hm => h.hapart s g hg (hs g hm)
  hrange:=fun g hg => h.hrange g (hs g hg) }
theorem NC {c : V} (h : c.isVal = true) : EM (dg c) = none ∧ EB (dg c) = none:=by
 cases c <;> first | (constructor <;> rfl) | cases h
theorem KM {c : V} (h : c.isVal = true) : EM c = none ∧ EB c = none:=by
 cases c <;> first | (constructor <;> rfl) | cases h
theorem HSim.take (h : HSim P nt bx base St B hand σ a w) (s : Nat) (hv : (σ s).isVal = true) :
  Ow P w St (σ s) (tm a s) (B s) ∧ HSim P nt bx base St (upd B s []) (hand ++ B s) (upd σ s (dg (σ s))) a w:=by
 have ho:=(h.slot s).ow hv
 have hnb:=NC hv
 refine ⟨ho,?_⟩
 have hB : ∀ q,∀ g ∈ upd B s [] q,q ≠ s ∧ g ∈ B q:=by
  intro q g hg
  by_cases e : q = s
  ·subst e; rw [upd_same] at hg; simp at hg
  ·rw [upd_ne _ _ e] at hg; exact ⟨e,hg⟩
 exact
 { h with
  slot:=fun q => by
   by_cases e : q = s
   ·subst e; rw [upd_same,upd_same]; exact (ho.deg hv).slot
   ·rw [upd_ne _ _ e,upd_ne _ _ e]; exact h.slot q
  boxes:=fun q cs e => by
   by_cases eq : q = s
   ·subst eq; rw [upd_same,hnb.1] at e; cases e
   ·rw [upd_ne _ _ eq] at e; exact h.boxes q cs e
  crefs:=fun q b e => by
   by_cases eq : q = s
   ·subst eq; rw [upd_same,hnb.2] at e; cases e
   ·rw [upd_ne _ _ eq] at e
    obtain ⟨cs,hcs⟩:=h.crefs q b e
    refine ⟨cs,?_⟩
    rw [upd_ne _ _ (fun eb => by subst eb; rw [(KM hv).1] at hcs; cases hcs)]; exact hcs
  nodup:=fun q => by
   by_cases e : q = s
   ·subst e; rw [upd_same]; exact List.nodup_nil
   ·rw [upd_ne _ _ e]; exact h.nodup q
  apart:=fun q r hqr g hg hg' => h.apart q r hqr g (hB q g hg).2 (hB r g hg').2
  hnodup:=List.nodup_append.2 ⟨h.hnodup,h.nodup s,fun x hx y hy e => by subst e; exact h.hapart s x hy hx⟩
  hapart:=fun q g hg hm => by
   obtain ⟨hq,hg⟩:=hB q g hg
   rcases List.mem_append.1 hm with hm | hm
   ·exact h.hapart q g hg hm
   ·exact h.apart q s hq g hg hm
  range:=fun q g hg => h.range q g (hB q g hg).2
  hrange:=fun g hg => by
   rcases List.mem_append.1 hg with hg | hg
   ·exact h.hrange g hg
   ·exact h.range s g hg }
theorem HSim.put (h : HSim P nt bx base St B hand σ a w) {d : Nat} (hd : d < nt) (hx : d ∉ bx) {c : V} {v : Value} {bs : List Nat} (hc : A3 P w St (tm a) c v bs)
  (hn : bs.Nodup) (hs : ∀ g ∈ bs,g ∈ hand) (hnb : EM c = none) (hcr : ∀ b,EB c = some b -> ∃ cs,EM (σ b) = some cs) :
  HSim P nt bx base St (upd B d bs) [] (upd σ d c) (a.put (some d) v) w:=by
 have ht:=Yz a d v (by rw [h.size]; exact hd)
 have hbd : ∀ b cs,EM (σ b) = some cs -> b ≠ d:=fun b cs e eb => hx (eb ▸ h.boxes b cs e)
 have hbox : ∀ b,(∃ cs,EM (σ b) = some cs) -> ∃ cs,EM (upd σ d c b) = some cs:=fun b ⟨cs,e⟩ => ⟨cs,by rw [upd_ne _ _ (hbd b cs e)]; exact e⟩
 refine
 {size:=by rw [size_put]; exact h.size
  defers:=by rw [O9]; exact h.defers
  slot:=fun q => by
   rw [ht]
   by_cases e : q = d
   ·subst e; rw [upd_same,upd_same,upd_same]
    exact hc.mono (fun _ _ h => h) (fun _ _ _ => rfl) (fun _ _ => ⟨rfl,fun _ => Iff.rfl⟩) (fun b eb => upd_ne _ _ (by obtain ⟨cs,e⟩:=hcr b eb; exact hbd b cs e))
   ·rw [upd_ne _ _ e,upd_ne _ _ e,upd_ne _ _ e]
    exact (h.slot q).mono (fun _ _ h => h) (fun _ _ _ => rfl) (fun _ _ => ⟨rfl,fun _ => Iff.rfl⟩) (fun b eb => upd_ne _ _ (by obtain ⟨cs,e⟩:=h.crefs q b eb; exact hbd b cs e))
  boxes:=fun q cs e => by
   by_cases eq : q = d
   ·subst eq; rw [upd_same,hnb] at e; cases e
   ·rw [upd_ne _ _ eq] at e; exact h.boxes q cs e
  crefs:=fun q b e => by
   by_cases eq : q = d
   ·subst eq; rw [upd_same] at e; exact hbox b (hcr b e)
   ·rw [upd_ne _ _ eq] at e; exact hbox b (h.crefs q b e)
  nodup:=fun q => by
   by_cases e : q = d
   ·subst e; rw [upd_same]; exact hn
   ·rw [upd_ne _ _ e]; exact h.nodup q
  apart:=fun q r hqr g hg hg' => by
   by_cases e : q = d
   ·subst e; rw [upd_same] at hg; rw [upd_ne _ _ (Ne.symm hqr)] at hg'; exact h.hapart r g hg' (hs g hg)
   ·rw [upd_ne _ _ e] at hg
    by_cases e' : r = d
    ·subst e'; rw [upd_same] at hg'; exact h.hapart q g hg (hs g hg')
    ·rw [upd_ne _ _ e'] at hg'; exact h.apart q r hqr g hg hg'
  hnodup:=List.nodup_nil
  hapart:=fun _ _ _ => by simp
  range:=fun q g hg => by
   by_cases e : q = d
   ·subst e; rw [upd_same] at hg; exact h.hrange g (hs g hg)
   ·rw [upd_ne _ _ e] at hg; exact h.range q g hg
  hrange:=by simp
  st:=h.st
  gl:=h.gl
  pin:=fun v0 e => by
   have hp:=h.pin v0 e
   rw [ht,upd_ne _ _ (show (0 : Nat) ≠ d from fun e0 => hx (e0 ▸ hp.2.1))]; exact hp }
theorem HSim.Q0 (h : HSim P nt bx base St B hand σ a w) {d : Nat} (hd : d < nt) (hx : d ∈ bx) (hd0 : OF ∈ bx -> d ≠ 0) (hold : EM (σ d) = none) {c : V} {v : Value} {bs : List Nat} (hc : A3 P w St (tm a) c v bs)
  (hn : bs.Nodup) (hs : ∀ g ∈ bs,g ∈ hand) (hrf : EB c = none) : HSim P nt bx base St (upd B d bs) [] (upd σ d c) (a.put (some d) v) w:=by
 have ht:=Yz a d v (by rw [h.size]; exact hd)
 have hbd : ∀ b cs,EM (σ b) = some cs -> b ≠ d:=fun b cs e eb => by subst eb; rw [hold] at e; cases e
 have hbox : ∀ b,(∃ cs,EM (σ b) = some cs) -> ∃ cs',EM (upd σ d c b) = some cs':=fun b ⟨cs',e⟩ => ⟨cs',by rw [upd_ne _ _ (hbd b cs' e)]; exact e⟩
 refine
 {size:=by rw [size_put]; exact h.size
  defers:=by rw [O9]; exact h.defers
  slot:=fun q => by
   rw [ht]
   by_cases e : q = d
   ·subst e; rw [upd_same,upd_same,upd_same]
    exact hc.mono (fun _ _ h => h) (fun _ _ _ => rfl) (fun _ _ => ⟨rfl,fun _ => Iff.rfl⟩) (fun b eb => by rw [hrf] at eb; cases eb)
   ·rw [upd_ne _ _ e,upd_ne _ _ e,upd_ne _ _ e]
    exact (h.slot q).mono (fun _ _ h => h) (fun _ _ _ => rfl) (fun _ _ => ⟨rfl,fun _ => Iff.rfl⟩) (fun b eb => upd_ne _ _ (by obtain ⟨cs,e⟩:=h.crefs q b eb; exact hbd b cs e))
  boxes:=fun q cs e => by
   by_cases eq : q = d
   ·subst eq; exact hx
   ·rw [upd_ne _ _ eq] at e; exact h.boxes q cs e
  crefs:=fun q b e => by
   by_cases eq : q = d
   ·subst eq; rw [upd_same,hrf] at e; cases e
   ·rw [upd_ne _ _ eq] at e; exact hbox b (h.crefs q b e)
  nodup:=fun q => by
   by_cases e : q = d
   ·subst e; rw [upd_same]; exact hn
   ·rw [upd_ne _ _ e]; exact h.nodup q
  apart:=fun q r hqr g hg hg' => by
   by_cases e : q = d
   ·subst e; rw [upd_same] at hg; rw [upd_ne _ _ (Ne.symm hqr)] at hg'; exact h.hapart r g hg' (hs g hg)
   ·rw [upd_ne _ _ e] at hg
    by_cases e' : r = d
    ·subst e'; rw [upd_same] at hg'; exact h.hapart q g hg (hs g hg')
    ·rw [upd_ne _ _ e'] at hg'; exact h.apart q r hqr g hg hg'
  hnodup:=List.nodup_nil
  hapart:=fun _ _ _ => by simp
  range:=fun q g hg => by
   by_cases e : q = d
   ·subst e; rw [upd_same] at hg; exact h.hrange g (hs g hg)
   ·rw [upd_ne _ _ e] at hg; exact h.range q g hg
  hrange:=by simp
  st:=h.st
  gl:=h.gl
  pin:=fun v0 e => by
   have hp:=h.pin v0 e
   rw [ht,upd_ne _ _ (fun e0 => hd0 hp.2.2 e0.symm)]; exact hp }
theorem HSim.dW (h : HSim P nt bx base St B hand σ a w) {s : Nat} {cs cs' : List V} {c' : V} (hcs : EM (σ s) = some cs) (hcs' : EM c' = some cs') {bs : List Nat} {hand' : List Nat} (hc : A3 P w St (tm a) c' (tm a s) bs)
  (hn : bs.Nodup) (hs : ∀ g ∈ bs,g ∈ B s ∨ g ∈ hand) (hn' : hand'.Nodup) (hs' : ∀ g ∈ hand',g ∈ B s ∨ g ∈ hand) (hap : ∀ g ∈ bs,g ∉ hand') :
  HSim P nt bx base St (upd B s bs) hand' (upd σ s c') a w:=by
 have hrf : EB c' = none:=by cases c' <;> first | rfl | cases hcs'
 have hbox : ∀ b,(∃ cs,EM (σ b) = some cs) -> ∃ cs'',EM (upd σ s c' b) = some cs'':=fun b ⟨cs,e⟩ => by
  by_cases eb : b = s
  ·subst eb; exact ⟨cs',by rw [upd_same]; exact hcs'⟩
  ·exact ⟨cs,by rw [upd_ne _ _ eb]; exact e⟩
 have hout : ∀ q,q ≠ s -> ∀ g ∈ B q,¬ (g ∈ B s ∨ g ∈ hand):=fun q hq g hg hm => by
  rcases hm with hm | hm
  ·exact h.apart q s hq g hg hm
  ·exact h.hapart q g hg hm
 refine
 { h with
  slot:=fun q => by
   by_cases e : q = s
   ·subst e; rw [upd_same,upd_same]; exact hc
   ·rw [upd_ne _ _ e,upd_ne _ _ e]; exact h.slot q
  boxes:=fun q cs e => by
   by_cases eq : q = s
   ·subst eq; exact h.boxes _ _ hcs
   ·rw [upd_ne _ _ eq] at e; exact h.boxes q cs e
  crefs:=fun q b e => by
   by_cases eq : q = s
   ·subst eq; rw [upd_same,hrf] at e; cases e
   ·rw [upd_ne _ _ eq] at e; exact hbox b (h.crefs q b e)
  nodup:=fun q => by
   by_cases e : q = s
   ·subst e; rw [upd_same]; exact hn
   ·rw [upd_ne _ _ e]; exact h.nodup q
  apart:=fun q r hqr g hg hg' => by
   by_cases e : q = s
   ·subst e; rw [upd_same] at hg; rw [upd_ne _ _ (Ne.symm hqr)] at hg'; exact hout r (Ne.symm hqr) g hg' (hs g hg)
   ·rw [upd_ne _ _ e] at hg
    by_cases e' : r = s
    ·subst e'; rw [upd_same] at hg'; exact hout q e g hg (hs g hg')
    ·rw [upd_ne _ _ e'] at hg'; exact h.apart q r hqr g hg hg'
  hnodup:=hn'
  hapart:=fun q g hg hm => by
   by_cases e : q = s
   ·subst e; rw [upd_same] at hg; exact hap g hg hm
   ·rw [upd_ne _ _ e] at hg; exact hout q e g hg (hs' g hm)
  range:=fun q g hg => by
   by_cases e : q = s
   ·subst e; rw [upd_same] at hg
    rcases hs g hg with h1 | h1
    ·exact h.range _ g h1
    ·exact h.hrange g h1
   ·rw [upd_ne _ _ e] at hg; exact h.range q g hg
  hrange:=fun g hg => by
   rcases hs' g hg with h1 | h1
   ·exact h.range _ g h1
   ·exact h.hrange g h1 }
theorem HSim.fresh (h : HSim P nt bx base St B hand σ a w) {bs : List Nat} (hn : bs.Nodup) (hr : ∀ g ∈ bs,¬ base g ∧ g < w.heap.size) (ho : ∀ s,∀ g ∈ B s,g ∉ bs) (hh : ∀ g ∈ hand,g ∉ bs) :
  HSim P nt bx base St B (hand ++ bs) σ a w :=
 { h with
  hnodup:=List.nodup_append.2 ⟨h.hnodup,hn,fun x hx y hy e => by subst e; exact hh x hx hy⟩
  hapart:=fun s g hg hm => by
   rcases List.mem_append.1 hm with hm | hm
   ·exact h.hapart s g hg hm
   ·exact ho s g hg hm
  hrange:=fun g hg => by
   rcases List.mem_append.1 hg with hg | hg
   ·exact h.hrange g hg
   ·exact hr g hg }
end
end Go.Proofs.YtkclaipnejgloaaGreatDoor
namespace Go.Proofs.YtkclaipnejgloaaGreatDoor
open Go.RowKit
set_option linter.unusedVariables false
inductive TyD where
 | sc (z : V)
 | st (size : Nat) (zero : List V) (fields : List (Nat × Nat))
 | sl (e : TypeId) (es eb : Nat) (ez : List V)
abbrev Tb:=TypeId -> Option TyD
def TyD.size : TyD -> Nat
 | .sc _ => 1
 | .st n _ _ => n
 | .sl .. => 1
def TyD.TV : TyD -> Bool
 | .st .. => true
 | _ => false
def ZL (P : Program) (zs : List V) (us : List Value) : Prop := ∀ w St,AC P w St zs us []
def Agr (P : Program) (t : TypeId) : TyD -> Prop
 | .sc z => ∃ i zv d,P.info? t = some i ∧ i.size = 1 ∧ i.zero = some zv ∧ ZL P [z] [zv] ∧ P.underlying t = some d ∧ (match z with | .int k _ => d = .int k | .bool _ => d = .bool | .str _ => d = .string | _ => False)
 | .st size zero fields => ∃ i arr fs,P.info? t = some i ∧ i.size = size ∧ i.zero = some (.agg arr) ∧ ZL P zero arr.toList ∧ P.underlying t = some (.struct fs) ∧ fs.toList.map (fun f => (f.offset,csz P f.type)) = fields ∧ ∀ f ∈ fields,0 < f.2
 | .sl e es eb ez => ∃ i j zv,P.info? t = some i ∧ i.size = 1 ∧ i.zero = some (.slice none 0 0) ∧ P.underlying t = some (.slice e) ∧ P.info? e = some j ∧ j.zero = some zv ∧ j.size = es ∧ j.bytes = eb ∧ ZL P ez zv.cells.toList ∧ ez.length = es ∧ 0 < es ∧ 0 < eb ∧ eb <= 128
def KD (P : Program) (tb : Tb) : Prop := ∀ t d,tb t = some d -> Agr P t d
def cV : Value -> V
 | .int k n => .int k n
 | .bool b => .bool b
 | .string s => if s.data.toList.length <= lim then .str s.data.toList else .undef
 | .slice none 0 0 => .dat 0 []
 | _ => .undef
def opV (σ : PS) : Operand -> V
 | .tmp t => σ t
 | .const v => cV v
 | .func f => .fn f
 | _ => .undef
def YL : BinOp -> V -> V -> V
 | .shl,.int k a,.int _ b => .int k (k.wrap (a * 2 ^ (min b.toNat k.bits)))
 | .shr,.int k a,.int _ b => .int k (a.fdiv (2 ^ (min b.toNat k.bits)))
 | .add,.int k a,.int _ b => .int k (k.wrap (a + b))
 | .sub,.int k a,.int _ b => .int k (k.wrap (a - b))
 | .mul,.int k a,.int _ b => .int k (k.wrap (a * b))
 | .quo,.int k a,.int _ b => .int k (k.wrap (a.tdiv b))
 | .rem,.int k a,.int _ b => .int k (a.tmod b)
 | .and,.int k a,.int _ b => .int k (k.wrap (BitVec.ofInt k.bits a &&& BitVec.ofInt k.bits b).toNat)
 | .or,.int k a,.int _ b => .int k (k.wrap (BitVec.ofInt k.bits a ||| BitVec.ofInt k.bits b).toNat)
 | .xor,.int k a,.int _ b => .int k (k.wrap (BitVec.ofInt k.bits a ^^^ BitVec.ofInt k.bits b).toNat)
 | .andNot,.int k a,.int _ b => .int k (k.wrap (BitVec.ofInt k.bits a &&& ~~~BitVec.ofInt k.bits b).toNat)
 | .eql,.int _ a,.int _ b => .bool (a == b)
 | .neq,.int _ a,.int _ b => .bool (a != b)
 | .lss,.int _ a,.int _ b => .bool (decide (a < b))
 | .leq,.int _ a,.int _ b => .bool (decide (a <= b))
 | .gtr,.int _ a,.int _ b => .bool (decide (b < a))
 | .geq,.int _ a,.int _ b => .bool (decide (b <= a))
 | .add,.str s,.str t => .str (s ++ t)
 | .eql,.str s,.str t => .bool (s == t)
 | .neq,.str s,.str t => .bool (!(s == t))
 | .lss,.str s,.str t => .bool (Op.bytesLess s t)
 | .leq,.str s,.str t => .bool (Op.bytesLess s t || s == t)
 | .gtr,.str s,.str t => .bool (!(Op.bytesLess s t || s == t))
 | .geq,.str s,.str t => .bool (!Op.bytesLess s t)
 | .eql,.bool a,.bool b => .bool (a == b)
 | .neq,.bool a,.bool b => .bool (!(a == b))
 | _,_,_ => .undef
def Wm (d : Option TyD) : BinOp -> V -> V -> Prop
 | .shl,.int _ _,.int _ b => 0 <= b
 | .shr,.int _ _,.int _ b => 0 <= b
 | .quo,.int k _,.int k' b => k = k' ∧ b ≠ 0
 | .rem,.int k _,.int k' b => k = k' ∧ b ≠ 0
 | .add,.str s,.str t => s.length + t.length <= lim
 | _,.int k _,.int k' _ => k = k'
 | .eql,.str _,.str _ => True
 | .neq,.str _,.str _ => True
 | .lss,.str _,.str _ => True
 | .leq,.str _,.str _ => True
 | .gtr,.str _,.str _ => True
 | .geq,.str _,.str _ => True
 | .eql,.bool _,.bool _ => d = some (.sc (.bool false))
 | .neq,.bool _,.bool _ => d = some (.sc (.bool false))
 | _,_,_ => False
def unV : UnOp -> V -> V
 | .not,.bool b => .bool (!b)
 | .neg,.int k n => .int k (k.wrap (0 - n))
 | _,_ => .undef
def unC : UnOp -> V -> Prop
 | .not,.bool _ => True
 | .neg,.int _ _ => True
 | _,_ => False
section
variable {P : Program} {w : World} {St : Nat -> Nat -> Prop} {t : Nat -> Value}
theorem EI {k : IntKind} {n : Int} {v : Value} {bs : List Nat} (h : A3 P w St t (.int k n) v bs) : v = .int k n:=h.2
theorem IU {b : Bool} {v : Value} {bs : List Nat} (h : A3 P w St t (.bool b) v bs) : v = .bool b:=h.2
theorem Jd {s : List UInt8} {v : Value} {bs : List Nat} (h : A3 P w St t (.str s) v bs) : v = .string ⟨s.toArray⟩ ∧ s.length <= maxLen:=h.2
theorem Jx (k : IntKind) (n : Int) : A3 P w St t (.int k n) (.int k n) []:=⟨rfl,rfl⟩
theorem N6 (b : Bool) : A3 P w St t (.bool b) (.bool b) []:=⟨rfl,rfl⟩
theorem Va {s : List UInt8} (h : s.length <= maxLen) : A3 P w St t (.str s) (.string ⟨s.toArray⟩) []:=⟨rfl,rfl,h⟩
theorem TG {ty : TypeId} (hu : P.underlying ty = some .bool) (n : Nat) (x y : Bool) : (Op.equalIn (n + 1) ty (.bool x) (.bool y)).run P w = .ok (x == y) w:=by
 simp [Op.equalIn,run_underlying hu]
theorem YM (op : BinOp) (ty : TypeId) (x y : Operand) {c1 c2 : V} {v1 v2 : Value} {b1 b2 : List Nat} (h1 : A3 P w St t c1 v1 b1) (h2 : A3 P w St t c2 v2 b2) {d : Option TyD} (hd : ∀ x,d = some x -> Agr P ty x) (hc : Wm d op c1 c2) :
  ∃ v,(do eqGuard op ty x y v1 v2; binOp op ty v1 v2 : Sem Value).run P w = .ok v w ∧ A3 P w St t (YL op c1 c2) v []:=by
 unfold Wm at hc
 split at hc
 case h_1 | h_2 =>
  obtain rfl:=EI h1; obtain rfl:=EI h2
  exact ⟨_,by simp [eqGuard,binOp,Op.shift,Int.not_lt.2 hc],Jx _ _⟩
 case h_3 | h_4 =>
  obtain rfl:=EI h1; obtain rfl:=EI h2
  obtain ⟨rfl,hb⟩:=hc
  exact ⟨_,by simp [eqGuard,binOp,Op.intDiv,hb],Jx _ _⟩
 case h_5 s u =>
  obtain ⟨rfl,l1⟩:=Jd h1; obtain ⟨rfl,l2⟩:=Jd h2
  refine ⟨.string ⟨(s ++ u).toArray⟩,?_,Va (by rw [List.length_append]; exact Au hc)⟩
  have h0 : ¬ IntKind.i64.max < ((s.length + u.length : Nat) : Int):=by
   have : IntKind.i64.max = 9223372036854775807:=rfl
   unfold lim at *
   rw [this]
   exact Int.not_lt.2 (by omega)
  have h1 : (⟨s.toArray⟩ : ByteArray) ++ ⟨u.toArray⟩ = ⟨(s ++ u).toArray⟩:=by
   apply ByteArray.ext; simp
  simp only [eqGuard,binOp,Op.stringOp,ByteArray.size,List.size_toArray,h1,GT.gt,h0,if_false]
  simp
 case h_6 =>
  obtain rfl:=EI h1; obtain rfl:=EI h2
  subst hc
  cases op <;> first
   | (refine ⟨_,?_,Jx _ _⟩; simp only [eqGuard,binOp,Op.intArith,ne_eq,not_true_eq_false,if_false,Sem.run_bind]; rfl)
   | (refine ⟨_,?_,Jx _ _⟩; simp only [eqGuard,binOp,ne_eq,not_true_eq_false,if_false,Sem.run_bind]; rfl)
   | (refine ⟨_,?_,N6 _⟩; simp only [eqGuard,binOp,Op.intCmp,ne_eq,not_true_eq_false,if_false,Sem.run_bind]; rfl)
   | (exfalso; simp_all; done)
 case h_7 | h_8 | h_9 | h_10 | h_11 | h_12 =>
  obtain ⟨rfl,l1⟩:=Jd h1; obtain ⟨rfl,l2⟩:=Jd h2
  exact ⟨_,by simp [eqGuard,binOp,Op.stringOp,ByteArray.toList_eq],N6 _⟩
 case h_13 | h_14 =>
  obtain rfl:=IU h1; obtain rfl:=IU h2
  refine ⟨_,?_,N6 _⟩
  obtain ⟨_,_,_,_,_,_,_,hu,hz⟩:=hd _ hc
  simp only at hz
  subst hz
  have he : ∀ x y : Bool,(Op.equal ty (.bool x) (.bool y)).run P w = .ok (x == y) w:=fun x y => TG hu 9999 x y
  simp [eqGuard,binOp,he]
 case h_15 => exact hc.elim
theorem d8 (op : UnOp) {c : V} {v : Value} {b : List Nat} (h : A3 P w St t c v b) (hc : unC op c) : ∃ u,(Op.unary op v).run P w = .ok u w ∧ A3 P w St t (unV op c) u []:=by
 unfold unC at hc
 split at hc
 ·obtain rfl:=IU h; exact ⟨_,rfl,N6 _⟩
 ·obtain rfl:=EI h; exact ⟨_,rfl,Jx _ _⟩
 ·exact hc.elim
theorem add_plain (b o j : Nat) : (⟨b,o,none⟩ : Addr).add j = ⟨b,o + j,none⟩:=by
 unfold Addr.add
 split
 ·rename_i h; subst h; rfl
 ·rfl
end
def X3 (g : Nat) : V:=match lays.lookup g with
 | some l => .adr (l.map fun x => .int x.1 x.2) 0
 | none => .undef
theorem WM {g : Nat} {cs : List V} {off : Nat} (h : X3 g = .adr cs off) : ∃ l,(g,l) ∈ lays ∧ cs = (l.map fun x => .int x.1 x.2) ∧ off = 0:=by
 unfold X3 at h
 split at h
 ·rename_i l hl
  injection h with h1 h2
  refine ⟨l,?_,h1.symm,h2.symm⟩
  have : ∀ L : List (Nat × List (IntKind × Int)),L.lookup g = some l -> (g,l) ∈ L:=by
   intro L
   induction L with
   | nil => intro h; cases h
   | cons p L ih =>
    intro h
    rw [List.lookup_cons] at h
    split at h
    ·rename_i e
     injection h with h
     have e:=eq_of_beq e
     subst h; subst e
     exact List.mem_cons_self ..
    ·exact List.mem_cons_of_mem _ (ih h)
  exact this _ hl
 ·cases h
theorem KI {g : Nat} : (∀ s o,X3 g ≠ .cref s o) ∧ (∀ u,X3 g ≠ .tok u) ∧ (∀ cs,X3 g ≠ .box cs):=by
 unfold X3
 split <;> exact ⟨fun _ _ h => (by cases h),fun _ h => (by cases h),fun _ h => (by cases h)⟩
def adV (σ : PS) : Operand -> V
 | .tmp s => match σ s with
  | .box _ => .cref s 0
  | c => c
 | .global g => X3 g
 | _ => .undef
def getCells (d : TyD) (cs : List V) (off : Nat) : V :=
 match d with
 | .st n _ _ => .agg (((cs.drop off).take n).map dg1)
 | _ => match cs[off]? with
  | some c => dg1 c
  | none => .undef
def PX (d : TyD) (σ : PS) : V -> V
 | .cref s off => match EM (σ s) with
  | some cs => getCells d cs off
  | none => .undef
 | .adr cs off => getCells d cs off
 | _ => .undef
def N4 (d : TyD) (σ : PS) : V -> Prop
 | .cref s off => match EM (σ s) with
  | some cs => off + d.size <= cs.length
  | none => False
 | .adr cs off => off + d.size <= cs.length
 | _ => False
section
variable {P : Program} {w : World} {St : Nat -> Nat -> Prop} {t : Nat -> Value}
theorem Agr.isAgg {ty : TypeId} {d : TyD} (h : Agr P ty d) : (isAgg ty).run P w = .ok d.TV w:=by
 cases d with
 | sc z =>
  obtain ⟨i,zv,d,_,_,_,_,hu,hz⟩:=h
  cases z <;> simp only at hz <;> first | exact hz.elim | (subst hz; simp [Go.isAgg,run_underlying hu,TyD.TV])
 | st n z f => obtain ⟨i,arr,fs,_,_,_,_,hu,_⟩:=h; simp [Go.isAgg,run_underlying hu,TyD.TV]
 | sl e es eb ez => obtain ⟨i,j,zv,_,_,_,hu,_⟩:=h; simp [Go.isAgg,run_underlying hu,TyD.TV]
theorem Agr.sizeOf {ty : TypeId} {d : TyD} (h : Agr P ty d) : (Go.sizeOf ty).run P w = .ok d.size w:=by
 cases d with
 | sc z => obtain ⟨i,zv,d,hi,hs,_⟩:=h; simp [Go.sizeOf,typeInfo,hi,hs,TyD.size]
 | st n z f => obtain ⟨i,arr,fs,hi,hs,_⟩:=h; simp [Go.sizeOf,typeInfo,hi,hs,TyD.size]
 | sl e es eb ez => obtain ⟨i,j,zv,hi,hs,_⟩:=h; simp [Go.sizeOf,typeInfo,hi,hs,TyD.size]
theorem RdL.take : ∀ {cs : List V} {us : List Value} (n : Nat),RdL w St cs us -> RdL w St (cs.take n) (us.take n)
 | [],_,n,h => by rw [show _ = [] from h]; simp [RdL]
 | c :: cs,_,0,h => by simp [RdL]
 | c :: cs,_,n + 1,⟨u,us',e,h1,h2⟩ => by rw [e,List.take_succ_cons,List.take_succ_cons]; exact ⟨u,us'.take n,rfl,h1,RdL.take n h2⟩
theorem RdL.drop : ∀ {cs : List V} {us : List Value} (n : Nat),RdL w St cs us -> RdL w St (cs.drop n) (us.drop n)
 | [],_,n,h => by rw [show _ = [] from h]; simp [RdL]
 | c :: cs,_,0,h => by simpa using h
 | c :: cs,_,n + 1,⟨u,us',e,h1,h2⟩ => by rw [e,List.drop_succ_cons,List.drop_succ_cons]; exact RdL.drop n h2
theorem RW {ty : TypeId} {d : TyD} (hd : Agr P ty d) {cs : List V} {off : Nat} {us : List Value} {b o : Nat} (hr : RdL w St (cs.drop off) us) (hu : ∀ (j : Nat) (u : Value),us[j]? = some u -> w.cell? ⟨b,o + j,none⟩ = some u) (hl : off + d.size <= cs.length) (hp : 0 < d.size ∨ d.TV = true) :
  ∃ v,(Instr.loadAt ty (.pointer (some ⟨b,o,none⟩))).run P w = .ok v w ∧ Ow P w St (getCells d cs off) v []:=by
 have hlen:=hr.length
 rw [List.length_drop] at hlen
 cases hag : d.TV with
 | true =>
  cases d with
  | sc z => cases hag
  | sl e es eb ez => cases hag
  | st n z f =>
   simp only [TyD.size] at hl
   have ht:=RdL.take n hr
   refine ⟨.agg (us.take n).toArray,?_,us.take n,rfl,AC.dm _ ht⟩
   have hr:=run_loadCells_list (P:=P) (w:=w) ⟨b,o,none⟩ (us.take n) (fun j v hv => by
    rw [add_plain]
    rw [List.getElem?_take] at hv
    split at hv
    ·exact hu j v hv
    ·cases hv)
   rw [List.length_take,Nat.min_eq_left (by omega)] at hr
   simp [Instr.loadAt,Instr.sureAddr,loadVar,hd.isAgg,hd.sizeOf,TyD.TV,TyD.size,hr]
 | false =>
  have h1 : d.size = 1:=by cases d <;> first | rfl | cases hag
  have hlt : off < cs.length:=by omega
  have hc : (cs.drop off)[0]? = some cs[off]:=by simp [hlt]
  obtain ⟨u,hu0,hrd⟩:=hr.get 0 _ hc
  have hcell:=hu 0 u hu0
  refine ⟨u,?_,?_⟩
  ·have hcell' : w.cell? ⟨b,o,none⟩ = some u:=by simpa using hcell
   simp [Instr.loadAt,Instr.sureAddr,loadVar,hd.isAgg,hag,hcell']
  ·have : getCells d cs off = dg1 cs[off]:=by
    cases d <;> first | (simp only [getCells,List.getElem?_eq_getElem hlt]; done) | cases hag
   rw [this]
   exact Ow.jM hrd.TW
end
section
variable {P : Program} {nt : Nat} {base : Bs} {bx : List Nat} {St : Nat -> Nat -> Prop} {B : Nat -> List Nat} {hand : List Nat} {σ : PS} {a : Act} {w : World}
theorem Z6 {t : Nat -> Value} {c : V} {v : Value} {bs : List Nat} {cs : List V} (hc : EM c = some cs) (h : A3 P w St t c v bs) :
  ∃ g T bs',∃ arr : Array Value,Qw v = some g ∧ w.heap[g]? = some (.cells arr T (0,0)) ∧ AC P w St cs arr.toList bs' ∧ bs = g :: bs' ∧ ∀ o,¬ St g o:=by
 cases c <;> simp only [EM,Option.some.injEq,reduceCtorEq] at hc
 ·subst hc
  obtain ⟨g,T,bs',arr,rfl,h2,h3,h4,h5⟩:=h
  exact ⟨g,T,bs',arr,rfl,h2,h3,h4,h5⟩
 ·subst hc
  obtain ⟨g,bs',arr,rfl,h2,h3,h4,h5,_⟩:=h
  exact ⟨g,_,bs',arr,rfl,h2,h3,h4,h5⟩
theorem Pk {t : Nat -> Value} {w' : World} {c : V} {v : Value} {bs bs'' : List Nat} {cs cs' : List V} {arr arr' : Array Value} {T : TypeId} {g : Nat} (hc : EM c = some cs) (h : A3 P w St t c v bs) (hg : Qw v = some g) (hh : w.heap[g]? = some (.cells arr T (0,0)))
  (hh' : w'.heap[g]? = some (.cells arr' T (0,0))) (hr : AC P w' St cs' arr'.toList bs'') (hst : ∀ o,¬ St g o) (hl : cs'.length = cs.length) : A3 P w' St t (M6 c cs') v (g :: bs''):=by
 cases c <;> simp only [EM,Option.some.injEq,reduceCtorEq] at hc
 ·subst hc
  obtain ⟨g',T',bs',arr0,rfl,h2,h3,h4,h5⟩:=h
  simp only [Qw,Option.some.injEq] at hg
  subst hg
  exact ⟨g',T,bs'',arr',rfl,hh',hr,rfl,hst⟩
 ·subst hc
  obtain ⟨g',bs',arr0,rfl,h2,h3,h4,h5,h6,h7⟩:=h
  simp only [Qw,Option.some.injEq] at hg
  subst hg
  rw [hh] at h2
  injection h2 with h2
  injection h2 with _ h2
  subst h2
  exact ⟨g',bs'',arr',rfl,hh',hr,rfl,hst,h6,hl.trans h7⟩
theorem JI (h : HSim P nt bx base St B hand σ a w) {x : Operand} {s off : Nat} {cs : List V} (e : adV σ x = .cref s off) (hs : EM (σ s) = some cs) :
  ∃ g T bs',∃ arr : Array Value,a.eval x = .pointer (some ⟨g,off,none⟩) ∧ Qw (tm a s) = some g ∧ w.heap[g]? = some (.cells arr T (0,0)) ∧ AC P w St cs arr.toList bs' ∧ B s = g :: bs' ∧ ∀ o,¬ St g o:=by
 obtain ⟨g,T,bs',arr,h1,h2,h3,h4,h5⟩:=Z6 hs (h.slot s)
 cases x with
 | tmp q =>
  simp only [adV] at e
  split at e
  ·rename_i cs' hbx
   simp only [V.cref.injEq] at e
   obtain ⟨rfl,rfl⟩:=e
   have hq:=h.slot q
   rw [hbx] at hq
   obtain ⟨g',_,_,_,e1,_⟩:=hq
   rw [e1] at h1
   simp only [Qw,Option.some.injEq] at h1
   subst h1
   exact ⟨g',T,bs',arr,e1,by rw [e1]; rfl,h2,h3,h4,h5⟩
  ·have hq:=h.slot q
   rw [e] at hq
   obtain ⟨_,g',e1,e2⟩:=hq
   rw [h1] at e1
   injection e1 with e1
   subst e1
   exact ⟨g,T,bs',arr,e2,h1,h2,h3,h4,h5⟩
 | const v => cases e
 | global g => exact absurd e (KI.1 _ _)
 | func f => cases e
theorem Rn (h : HSim P nt bx base St B hand σ a w) {x : Operand} {cs : List V} {off : Nat} (e : adV σ x = .adr cs off) : ∃ b o,a.eval x = .pointer (some ⟨b,o,none⟩) ∧ Cg w St b o (cs.drop off):=by
 cases x with
 | tmp q =>
  simp only [adV] at e
  split at e
  ·cases e
  ·have hq:=h.slot q
   rw [e] at hq
   obtain ⟨_,b,o,e1,e2⟩:=hq
   exact ⟨b,o,e1,e2⟩
 | const v => cases e
 | global g =>
  obtain ⟨l,h1,rfl,rfl⟩:=WM e
  obtain ⟨h2,h3⟩:=h.gl _ h1
  refine ⟨g,0,rfl,?_⟩
  rw [List.drop_zero]
  have key : ∀ (l : List (IntKind × Int)) (j : Nat),(∀ i x,l[i]? = some x -> w.cell? ⟨g,j + i,none⟩ = some (.int x.1 x.2)) -> Cg w St g j (l.map fun x => .int x.1 x.2):=by
   intro l
   induction l with
   | nil => intro j _; exact trivial
   | cons x l ih => exact fun j hj => ⟨⟨h2 j,_,by simpa using hj 0 x rfl,rfl⟩,ih (j + 1) fun i y hy => by
     have:=hj (i + 1) y (by rw [List.getElem?_cons_succ]; exact hy)
     rw [show j + 1 + i = j + (i + 1) by omega]; exact this⟩
  exact key l 0 (fun i x hx => by rw [Nat.zero_add]; exact h3 i x hx)
 | func f => cases e
theorem WQ (h : HSim P nt bx base St B hand σ a w) {ty : TypeId} {d : TyD} (hd : Agr P ty d) {x : Operand} (hc : N4 d σ (adV σ x)) :
  ∃ v,(Instr.loadAt ty (a.eval x)).run P w = .ok v w ∧ Ow P w St (PX d σ (adV σ x)) v []:=by
 have hp : 0 < d.size ∨ d.TV = true:=by cases d <;> first | exact .inl (Nat.zero_lt_one) | exact .inr rfl
 cases e : adV σ x with
 | cref s off =>
  rw [e] at hc
  simp only [N4] at hc
  simp only [PX]
  split at hc
  ·rename_i cs hs
   obtain ⟨g,T,bs',arr,h1,h2,h3,h4,h5,h6⟩:=JI h e hs
   rw [h1]
   refine RW hd (us:=arr.toList.drop off) ((AC.rdL cs h4).drop off) (fun j u hu => ?_) hc hp
   rw [List.getElem?_drop] at hu
   simpa [World.cell?,h3] using hu
  ·exact hc.elim
 | adr cs off =>
  rw [e] at hc
  simp only [N4] at hc
  simp only [PX]
  obtain ⟨b,o,h1,h2⟩:=Rn h e
  obtain ⟨us,h3,h4⟩:=h2.list
  rw [h1]
  exact RW hd h3 h4 hc hp
 | _ => rw [e] at hc; exact hc.elim
def tokF (off : Nat) : Value -> V
 | .pointer (some ⟨g,o,none⟩) => .tok (.pointer (some ⟨g,o + off,none⟩))
 | _ => .undef
theorem V5 (off : Nat) (u : Value) : EM (tokF off u) = none ∧ EB (tokF off u) = none:=by
 unfold tokF
 split <;> exact ⟨rfl,rfl⟩
def eN : Value -> Bool
 | .pointer (some ⟨_,_,none⟩) => true
 | _ => false
def faV (off : Nat) : V -> V
 | .tok u => tokF off u
 | .cref s o => .cref s (o + off)
 | .adr cs o => .adr cs (o + off)
 | _ => .undef
def faC (σ : PS) : V -> Prop
 | .cref s _ => ∃ cs,EM (σ s) = some cs
 | .adr _ _ => True
 | .tok u => eN u = true
 | _ => False
theorem UX {u : Value} (h : eN u = true) : ∃ g o,u = .pointer (some ⟨g,o,none⟩):=by
 unfold eN at h
 split at h
 ·exact ⟨_,_,rfl⟩
 ·cases h
theorem Np (h : HSim P nt bx base St B hand σ a w) {x : Operand} {u : Value} (hx : adV σ x = .tok u) : a.eval x = u:=by
 cases x with
 | tmp s =>
  have hs : σ s = .tok u:=by
   unfold adV at hx
   simp only at hx
   split at hx
   ·cases hx
   ·exact hx
  have:=h.slot s
  rw [hs] at this
  exact this.2.1
 | global g => exact absurd hx (KI.2.1 _)
 | _ => cases hx
theorem Uu (h : HSim P nt bx base St B hand σ a w) {ty : TypeId} {n : Nat} {z : List V} {fs : List (Nat × Nat)} (hd : Agr P ty (.st n z fs)) {f off sz : Nat} (hf : fs[f]? = some (off,sz)) {x : Operand} (hc : faC σ (adV σ x)) :
  ∃ v,(Instr.fieldAt ty (a.eval x) f).run P w = .ok v w ∧ A3 P w St (tm a) (faV off (adV σ x)) v []:=by
 obtain ⟨i,arr,gs,_,_,_,_,hu,hfs,hpos⟩:=hd
 have hg : ∃ fd,gs[f]? = some fd ∧ fd.offset = off ∧ csz P fd.type = sz:=by
  rw [<- hfs,List.getElem?_map] at hf
  obtain ⟨fd,h1,h2⟩:=Option.map_eq_some_iff.1 hf
  injection h2 with h2 h3
  exact ⟨fd,by simpa using h1,h2,h3⟩
 obtain ⟨fd,hfd,rfl,hsz⟩:=hg
 have hp : 0 < csz P fd.type:=by rw [hsz]; exact hpos _ (List.mem_of_getElem? hf)
 obtain ⟨j,hj,hj0⟩ : ∃ j,P.info? fd.type = some j ∧ j.size ≠ 0:=by
  unfold csz at hp
  cases hi : P.info? fd.type with
  | none => rw [hi] at hp; simp at hp
  | some j => rw [hi] at hp; exact ⟨j,rfl,by simp at hp; omega⟩
 have hrun : ∀ b o,(Instr.fieldAt ty (.pointer (some ⟨b,o,none⟩)) f).run P w = .ok (.pointer (some ⟨b,o + fd.offset,none⟩)) w:=by
  intro b o
  simp [Instr.fieldAt,run_underlying hu,hfd,Instr.sureAddr,fieldPlace,Go.sizeOf,typeInfo,hj,hj0,add_plain]
 cases e : adV σ x with
 | cref s o =>
  rw [e] at hc
  obtain ⟨cs,hs⟩:=hc
  obtain ⟨g,T,bs',arr',h1,h2,_⟩:=JI h e hs
  rw [h1]
  exact ⟨_,hrun _ _,rfl,g,h2,rfl⟩
 | adr cs o =>
  obtain ⟨b,o',h1,h2⟩:=Rn h e
  rw [h1]
  refine ⟨_,hrun _ _,rfl,b,_,rfl,?_⟩
  rw [<- List.drop_drop]
  exact h2.drop _
 | tok u =>
  rw [e] at hc
  obtain ⟨g,o,rfl⟩:=UX hc
  rw [Np h e]
  exact ⟨_,hrun _ _,rfl,rfl,rfl⟩
 | _ => rw [e] at hc; exact hc.elim
theorem VV {e : TypeId} {n : Nat} {cs : List V} {v : Value} {bs : List Nat} {t : Nat -> Value} {c : V} (hc : c = .own e n cs ∨ c = .dat n cs) (h : A3 P w St t c v bs) : Rd w St (.dat n cs) v:=by
 rcases hc with rfl | rfl
 ·have:=Ow.rd (.own e n cs) (show Ow P w St (.own e n cs) v bs from h) rfl
  simp only [Rd] at this ⊢
  exact this
 ·exact Ow.rd (.dat n cs) (show Ow P w St (.dat n cs) v bs from h) rfl
def Kf : V -> Option (Nat × List V)
 | .own _ n cs => some (n,cs)
 | .dat n cs => some (n,cs)
 | .arg n cs => some (n,cs)
 | .pin _ n cs => some (n,cs)
 | _ => none
theorem GU {t : Nat -> Value} {c : V} {v : Value} {bs : List Nat} {n : Nat} {cs : List V} (hc : Kf c = some (n,cs)) (h : A3 P w St t c v bs) : Rd w St (.dat n cs) v:=by
 cases c <;> simp only [Kf,Option.some.injEq,Prod.mk.injEq,reduceCtorEq] at hc
 ·obtain ⟨rfl,rfl⟩:=hc; exact VV (.inl rfl) h
 ·obtain ⟨rfl,rfl⟩:=hc; exact VV (e:=0) (.inr rfl) h
 ·obtain ⟨rfl,rfl⟩:=hc
  obtain ⟨_,hn,A,c,e,hc,h,h0⟩:=h
  exact ⟨hn,A,c,e,hc,fun hp => let ⟨b,off,ea,_,hr⟩:=h hp; ⟨b,off,ea,hr⟩,h0⟩
 ·obtain ⟨rfl,rfl⟩:=hc
  exact h.2.2
def NX : V -> Option Int
 | .int _ n => some n
 | _ => none
theorem Of {t : Nat -> Value} {c : V} {v : Value} {bs : List Nat} {i : Int} (hc : NX c = some i) (h : A3 P w St t c v bs) : ∃ k,v = .int k i:=by
 cases c <;> simp only [NX,Option.some.injEq,reduceCtorEq] at hc
 subst hc; exact ⟨_,EI h⟩
def iaV (es : Nat) (x i : V) : V:=match Kf x,NX i with
 | some (_,cs),some i => .adr (cs.drop (i.toNat * es)) 0
 | _,_ => .undef
def iaC (x i : V) : Prop:=match Kf x,NX i with
 | some (n,_),some i => 0 <= i ∧ i < n
 | _,_ => False
theorem TJ {t : Nat -> Value} {ty e : TypeId} {es eb : Nat} {ez : List V} (hd : Agr P ty (.sl e es eb ez)) {c d : V} {v u : Value} {b1 b2 : List Nat} (h1 : A3 P w St t c v b1) (h2 : A3 P w St t d u b2) (hc : iaC c d) :
  ∃ r,(Instr.indexAt ty v u).run P w = .ok r w ∧ A3 P w St t (iaV es c d) r []:=by
 obtain ⟨i,j,zv,_,_,_,hu,hj,_,hes,_⟩:=hd
 unfold iaC at hc
 split at hc
 ·rename_i n cs ix hs hi
  obtain ⟨hn,A,cap,rfl,_,hrow,_⟩:=GU hs h1
  obtain ⟨k,rfl⟩:=Of hi h2
  obtain ⟨b,off,rfl,hr⟩:=hrow (by omega)
  simp only [iaV,hs,hi]
  refine ⟨.pointer (some ⟨b,off + ix.toNat * es,none⟩),?_,rfl,b,_,rfl,by rw [List.drop_zero]; exact hr.drop _⟩
  simp [Instr.indexAt,asIntOf,run_underlying hu,hc,Go.sizeOf,typeInfo,hj,hes,add_plain]
 ·exact hc.elim
end
def aw (x i : V) : V:=match x,NX i with
 | .str s,some i => match s[i.toNat]? with
  | some b => .int .u8 b.toNat
  | none => .undef
 | _,_ => .undef
def av (x i : V) : Prop:=match x,NX i with
 | .str s,some i => 0 <= i ∧ i < s.length
 | _,_ => False
def lenV : V -> V
 | .str s => .int .i64 s.length
 | c => match Kf c with
  | some (n,_) => .int .i64 n
  | none => .undef
def ao (d : Option TyD) : V -> Prop
 | .str _ => d = some (.sc (.str []))
 | c => match Kf c,d with
  | some _,some (.sl ..) => True
  | _,_ => False
def Rw (dflt : Int) : Option V -> Option Int
 | none => some dflt
 | some c => NX c
def QV : V -> Nat -> List V -> V
 | .arg _ _,n,cs => .arg n cs
 | _,n,cs => .dat n cs
def N8 (d : Option TyD) (x : V) (lo hi : Option V) : V:=match d,x with
 | some (.sc _),.str s => match Rw 0 lo,Rw s.length hi with
  | some l,some h => .str ((s.take h.toNat).drop l.toNat)
  | _,_ => .undef
 | some (.sl _ es _ _),x => match Kf x with
  | some (n,cs) => match Rw 0 lo,Rw n hi with
   | some l,some h => QV x (h.toNat - l.toNat) ((cs.take (h.toNat * es)).drop (l.toNat * es))
   | _,_ => .undef
  | none => .undef
 | _,_ => .undef
def R2 (d : Option TyD) (x : V) (lo hi : Option V) : Prop:=match d,x with
 | some (.sc (.str [])),.str s => match Rw 0 lo,Rw s.length hi with
  | some l,some h => 0 <= l ∧ l <= h ∧ h <= s.length
  | _,_ => False
 | some (.sl _ es _ _),x => match Kf x with
  | some (n,cs) => match Rw 0 lo,Rw n hi with
   | some l,some h => 0 <= l ∧ l <= h ∧ h <= n ∧ cs.length = n * es
   | _,_ => False
  | none => False
 | _,_ => False
def Wr : V -> UInt8
 | .int _ n => UInt8.ofNat n.toNat
 | _ => 0
def j0 : V -> Bool
 | .int .u8 _ => true
 | _ => false
def TF (dd : Option TyD) (x : V) : V:=match dd,x with
 | some (.sc (.int k _)),.int _ n => .int k (k.wrap n)
 | some (.sc (.str _)),x => match Kf x with
  | some (_,cs) => .str (cs.map Wr)
  | none => .undef
 | _,_ => .undef
def TE (tb : Tb) (src dst : TypeId) (x : V) : Prop:=match tb src,tb dst,x with
 | some _,some (.sc (.int _ _)),.int _ _ => True
 | some (.sl e _ _ _),some (.sc (.str _)),x => match Kf x,tb e with
  | some (n,cs),some (.sc (.int .u8 _)) => cs.length = n ∧ cs.all j0 = true
  | _,_ => False
 | _,_,_ => False
def mxV (mx : Bool) (x y : V) : V:=match x,y with
 | .int k a,.int _ b => .int k (if mx then (if a < b then b else a) else (if b < a then b else a))
 | _,_ => .undef
def mxC (x y : V) : Prop:=match x,y with
 | .int _ _,.int _ _ => True
 | _,_ => False
section
variable {P : Program} {w : World} {St : Nat -> Nat -> Prop} {t : Nat -> Value}
theorem Agr.und {ty : TypeId} {d : TyD} (h : Agr P ty d) : ∃ u,P.underlying ty = some u:=by
 cases d with
 | sc z => obtain ⟨i,zv,d,_,_,_,_,hu,hz⟩:=h; exact ⟨_,hu⟩
 | st n z f => obtain ⟨i,arr,fs,_,_,_,_,hu,_⟩:=h; exact ⟨_,hu⟩
 | sl e es eb ez => obtain ⟨i,j,zv,_,_,_,hu,_⟩:=h; exact ⟨_,hu⟩
theorem Agr.str {ty : TypeId} {s : List UInt8} (h : Agr P ty (.sc (.str s))) : P.underlying ty = some .string:=by
 obtain ⟨i,zv,d,_,_,_,_,hu,hz⟩:=h; rw [hu]; simp only at hz; rw [hz]
theorem Agr.int {ty : TypeId} {k : IntKind} {n : Int} (h : Agr P ty (.sc (.int k n))) : P.underlying ty = some (.int k):=by
 obtain ⟨i,zv,d,_,_,_,_,hu,hz⟩:=h; rw [hu]; simp only at hz; rw [hz]
theorem size_bytes (s : List UInt8) : (⟨s.toArray⟩ : ByteArray).size = s.length:=by show s.toArray.size = _; simp
theorem PO (s : List UInt8) (i : Nat) : (⟨s.toArray⟩ : ByteArray)[i]? = s[i]?:=by
 simp only [getElem?,decidableGetElem?]
 by_cases h : i < s.length
 ·have h' : i < (⟨s.toArray⟩ : ByteArray).size:=by simpa [ByteArray.size] using h
  rw [dif_pos h']
  show some (s.toArray[i]'_) = _
  simp [h]
 ·have h' : ¬ i < (⟨s.toArray⟩ : ByteArray).size:=by simpa [ByteArray.size] using h
  rw [dif_neg h']
  simp [h]
theorem Z5 {ty : TypeId} {s0 : List UInt8} (hd : Agr P ty (.sc (.str s0))) {c d : V} {v u : Value} {b1 b2 : List Nat} (h1 : A3 P w St t c v b1) (h2 : A3 P w St t d u b2) (hc : av c d) :
  ∃ r,(Instr.index ty v u).run P w = .ok r w ∧ A3 P w St t (aw c d) r []:=by
 have hu:=hd.str
 unfold av at hc
 split at hc
 ·rename_i s i hi
  obtain ⟨rfl,_⟩:=Jd h1
  obtain ⟨k,rfl⟩:=Of hi h2
  have hlt : i.toNat < s.length:=by omega
  have h0 : (⟨s.toArray⟩ : ByteArray)[i.toNat]? = some s[i.toNat]:=by rw [PO,List.getElem?_eq_getElem hlt]
  simp only [aw,hi,List.getElem?_eq_getElem hlt]
  exact ⟨_,by simp [Instr.index,asIntOf,run_underlying hu,hc.1,h0],Jx _ _⟩
 ·exact hc.elim
theorem Zm {ty : TypeId} {rt : TypeId} {d : Option TyD} (hd : ∀ x,d = some x -> Agr P ty x) {c : V} {v : Value} {b1 : List Nat} (h1 : A3 P w St t c v b1) (hc : ao d c) :
  ∃ r,(Builtin.len_ #[ty] rt #[v]).run P w = .ok r w ∧ A3 P w St t (lenV c) r []:=by
 unfold ao at hc
 split at hc
 ·rename_i s
  obtain ⟨rfl,_⟩:=Jd h1
  refine ⟨.int .i64 s.length,?_,Jx _ _⟩
  have hu:=run_underlying (hd _ hc).str
  simp only [Builtin.len_,Sem.run_bind,List.getElem?_toArray,List.getElem?_cons_zero,hu,Result.andThen_ok,size_bytes,Sem.run_pure,goInt]
 ·rename_i hns
  cases hsl : Kf c with
  | none => rw [hsl] at hc; exact hc.elim
  | some z =>
   obtain ⟨n,cs⟩:=z
   rw [hsl] at hc
   cases d with
   | none => exact hc.elim
   | some d =>
    cases d with
    | sc z => exact hc.elim
    | st n z f => exact hc.elim
    | sl e es eb ez =>
     obtain ⟨_,A,cap,rfl,_⟩:=GU hsl h1
     obtain ⟨i,j,zv,_,_,_,hu,_⟩:=hd _ rfl
     have : lenV c = .int .i64 n:=by
      cases c <;> first | (simp only [Kf,Option.some.injEq,Prod.mk.injEq] at hsl; simp [lenV,Kf,hsl.1]; done) | cases hsl
     rw [this]
     exact ⟨_,by simp [Builtin.len_,run_underlying hu,goInt],Jx _ _⟩
theorem PH (s : List UInt8) (l h : Nat) : (⟨s.toArray⟩ : ByteArray).extract l h = ⟨((s.take h).drop l).toArray⟩:=by
 apply ByteArray.ext
 rw [ByteArray.data_extract]
 apply Array.ext'
 rw [Array.toList_extract,List.extract_eq_take_drop,List.drop_take]
def BdR (dflt i : Int) (v : Option Value) : Prop:=(v = none ∧ i = dflt) ∨ ∃ k,v = some (.int k i)
theorem Wl {lo : Option V} {vl : Option Value} {l dflt : Int} (hl : Rw dflt lo = some l) (hv : ∀ c,lo = some c -> ∃ v b,vl = some v ∧ A3 P w St t c v b) (hn : lo = none -> vl = none) : BdR dflt l vl:=by
 cases lo with
 | none => simp only [Rw,Option.some.injEq] at hl; exact .inl ⟨hn rfl,hl.symm⟩
 | some c =>
  obtain ⟨v,b,e,h⟩:=hv c rfl
  obtain ⟨k,rfl⟩:=Of hl h
  exact .inr ⟨k,e⟩
theorem O5 (isS : Bool) (len cap : Nat) {l h : Int} {vl vh : Option Value} (hl : BdR 0 l vl) (hh : BdR len h vh) (h0 : 0 <= l) (h1 : l <= h) (h2 : h <= cap) :
  (Instr.sliceBounds isS len cap vl vh none).run P w = .ok (l.toNat,h.toNat,cap) w:=by
 rcases hl with ⟨rfl,rfl⟩ | ⟨k,rfl⟩ <;> rcases hh with ⟨rfl,rfl⟩ | ⟨k',rfl⟩
 ·simp [Instr.sliceBounds]
 ·simp [Instr.sliceBounds,Instr.sliceBound,asIntOf,show 0 <= h by omega,h2]
 ·simp [Instr.sliceBounds,Instr.sliceBound,asIntOf,h0,h1]
 ·simp [Instr.sliceBounds,Instr.sliceBound,asIntOf,show 0 <= h by omega,h2,h0]
  intro hx; omega
theorem W5 {ty : TypeId} {d : Option TyD} (hd : ∀ x,d = some x -> Agr P ty x) {c : V} {v : Value} {b1 : List Nat} (h1 : A3 P w St t c v b1) {lo hi : Option V} {vl vh : Option Value}
  (hlv : ∀ c,lo = some c -> ∃ v b,vl = some v ∧ A3 P w St t c v b) (hln : lo = none -> vl = none) (hhv : ∀ c,hi = some c -> ∃ v b,vh = some v ∧ A3 P w St t c v b) (hhn : hi = none -> vh = none) (hc : R2 d c lo hi) :
  ∃ r,(Instr.sliceAt ty v vl vh none).run P w = .ok r w ∧ A3 P w St t (N8 d c lo hi) r []:=by
 unfold R2 at hc
 split at hc
 ·rename_i s
  obtain ⟨rfl,hs⟩:=Jd h1
  have hu:=run_underlying (P:=P) (hd _ rfl).str w
  split at hc
  ·rename_i l h hl hh
   have e:=O5 (P:=P) (w:=w) false s.length s.length (Wl hl hlv hln) (Wl hh hhv hhn) hc.1 hc.2.1 hc.2.2
   refine ⟨.string ⟨((s.take h.toNat).drop l.toNat).toArray⟩,?_,?_⟩
   ·simp [Instr.sliceAt,Instr.slice,hu,size_bytes,e,PH]
   ·simp only [N8,hl,hh]
    exact Va (by simp; omega)
  ·exact hc.elim
 ·rename_i e es eb ez
  cases hsl : Kf c with
  | none => rw [hsl] at hc; exact hc.elim
  | some z =>
   obtain ⟨n,cs⟩:=z
   rw [hsl] at hc
   simp only at hc
   split at hc
   ·rename_i l h hl hh
    obtain ⟨hn,A,cap,rfl,hcap,hrow,h0⟩:=GU hsl h1
    obtain ⟨i,j,zv,_,_,_,hu,hj,_,hes,_⟩:=hd _ rfl
    have hbd:=O5 (P:=P) (w:=w) true n cap (Wl hl hlv hln) (Wl hh hhv hhn) hc.1 hc.2.1 (by omega)
    have hv : N8 (some (.sl e es eb ez)) c lo hi = QV c (h.toNat - l.toNat) ((cs.take (h.toNat * es)).drop (l.toNat * es)):=by
     cases c <;> simp only [Kf,Option.some.injEq,Prod.mk.injEq,reduceCtorEq] at hsl <;> simp [N8,Kf,hsl,hl,hh]
    rw [hv]
    refine ⟨.slice (if cap = l.toNat then A else A.map (·.add (l.toNat * es))) (h.toNat - l.toNat) (cap - l.toNat),?_,?_⟩
    ·simp [Instr.sliceAt,Instr.slice,run_underlying hu,hbd,Go.sizeOf,typeInfo,hj,hes]
    ·have hdat : Rd w St (.dat (h.toNat - l.toNat) ((cs.take (h.toNat * es)).drop (l.toNat * es))) (.slice (if cap = l.toNat then A else A.map (·.add (l.toNat * es))) (h.toNat - l.toNat) (cap - l.toNat)):=by
      refine ⟨Nat.le_trans (by omega) hn,_,_,rfl,by omega,fun hp => ?_,fun hz => ?_⟩
      ·obtain ⟨b,off,rfl,hr⟩:=hrow (by omega)
       refine ⟨b,off + l.toNat * es,by rw [if_neg (by omega)]; simp [add_plain],?_⟩
       rw [List.drop_take]
       exact (hr.drop _).take _
      ·have : l.toNat = h.toNat:=by omega
       rw [this]
       simp
     have hother : QV c (h.toNat - l.toNat) ((cs.take (h.toNat * es)).drop (l.toNat * es)) = .dat (h.toNat - l.toNat) ((cs.take (h.toNat * es)).drop (l.toNat * es)) ∨ c = .arg n cs:=by
      cases c <;> simp only [Kf,Option.some.injEq,Prod.mk.injEq,reduceCtorEq] at hsl <;> first | exact .inl rfl | (obtain ⟨rfl,rfl⟩:=hsl; exact .inr rfl)
     rcases hother with ho | rfl
     ·rw [ho]; exact ⟨rfl,hdat⟩
     ·obtain ⟨_,_,A',cap',e1,_,hrow',_⟩:=h1
      injection e1 with e1 _ _
      subst e1
      refine ⟨rfl,Nat.le_trans (by omega) hn,_,_,rfl,by omega,fun hp => ?_,fun hz => ?_⟩
      ·obtain ⟨b,off,rfl,hw,hr⟩:=hrow' (by omega)
       refine ⟨b,off + l.toNat * es,by rw [if_neg (by omega)]; simp [add_plain],fun hne => hw (fun h0 => hne (by rw [h0]; simp)),?_⟩
       rw [List.drop_take]
       exact (hr.drop _).take _
      ·have : l.toNat = h.toNat:=by omega
       rw [this]
       simp
   ·exact hc.elim
 ·exact hc.elim
theorem Zt {rt : TypeId} {ts : Array TypeId} {c d : V} {v u : Value} {b1 b2 : List Nat} (h1 : A3 P w St t c v b1) (h2 : A3 P w St t d u b2) (hc : mxC c d) :
  ∃ r,(Builtin.max_ ts rt #[v,u]).run P w = .ok r w ∧ A3 P w St t (mxV true c d) r []:=by
 unfold mxC at hc
 split at hc
 ·obtain rfl:=EI h1; obtain rfl:=EI h2
  refine ⟨_,?_,Jx _ _⟩
  simp [Builtin.max_,Builtin.max2]
 ·exact hc.elim
theorem Zu {rt : TypeId} {ts : Array TypeId} {c d : V} {v u : Value} {b1 b2 : List Nat} (h1 : A3 P w St t c v b1) (h2 : A3 P w St t d u b2) (hc : mxC c d) :
  ∃ r,(Builtin.min_ ts rt #[v,u]).run P w = .ok r w ∧ A3 P w St t (mxV false c d) r []:=by
 unfold mxC at hc
 split at hc
 ·obtain rfl:=EI h1; obtain rfl:=EI h2
  refine ⟨_,?_,Jx _ _⟩
  simp [Builtin.min_,Builtin.min2]
 ·exact hc.elim
theorem foldl_push (ns : List Int) : ∀ (s : ByteArray),ns.foldl (fun r n => r.push (UInt8.ofNat n.toNat)) s = ⟨(s.data.toList ++ ns.map fun n => UInt8.ofNat n.toNat).toArray⟩:=by
 induction ns with
 | nil => intro s; apply ByteArray.ext; simp
 | cons n ns ih =>
  intro s
  rw [List.foldl_cons,ih]
  apply ByteArray.ext
  simp [ByteArray.push]
theorem u8s : ∀ {cs : List V},cs.all j0 = true -> ∃ ns : List Int,cs = ns.map (V.int .u8)
 | [],_ => ⟨[],rfl⟩
 | c :: cs,h => by
  simp only [List.all_cons,Bool.and_eq_true] at h
  obtain ⟨ns,rfl⟩:=u8s h.2
  have h1:=h.1
  cases c with
  | int k n =>
   cases k <;> first | exact ⟨n :: ns,rfl⟩ | cases h1
  | _ => cases h1
theorem Yk : ∀ {ns : List Int} {us : List Value},RdL w St (ns.map (V.int .u8)) us -> us = ns.map (Value.int .u8)
 | [],_,h => h
 | n :: ns,_,⟨u,us',e,h1,h2⟩ => by rw [e,List.map_cons,Yk h2,show u = .int .u8 n from h1]
theorem Sw {z : List UInt8} {c : V} {n : Nat} {cs : List V} (h : Kf c = some (n,cs)) : TF (some (.sc (.str z))) c = .str (cs.map Wr):=by
 cases c <;> first | (simp only [TF,h]; done) | cases h
theorem Wv {tb : Tb} (htb : KD P tb) {src dst : TypeId} {c : V} {v : Value} {b1 : List Nat} (h1 : A3 P w St t c v b1) (hc : TE tb src dst c) :
  ∃ r,(convert src dst v).run P w = .ok r w ∧ A3 P w St t (TF (tb dst) c) r []:=by
 unfold TE at hc
 split at hc
 ·rename_i ds k z k' n hs hd
  obtain rfl:=EI h1
  obtain ⟨us,hus⟩:=(htb _ _ hs).und
  have hud:=(htb _ _ hd).int
  rw [hd]
  exact ⟨_,by simp [convert,run_underlying hus,run_underlying hud,Conv.intToInt],Jx _ _⟩
 ·rename_i e es eb ez z hs hd
  split at hc
  ·rename_i n cs z' hsl he
   obtain ⟨hlen,hall⟩:=hc
   obtain ⟨ns,rfl⟩:=u8s hall
   obtain ⟨i,j,zv,_,_,_,hus,_⟩:=htb _ _ hs
   have hud:=(htb _ _ hd).str
   have hue:=(htb _ _ he).int
   have hrd:=GU hsl h1
   obtain ⟨hn,A,cap,rfl,hcap,hrow,h0⟩:=hrd
   rw [List.length_map] at hlen
   rw [hd,Sw hsl]
   have hv : (ns.map (V.int .u8)).map Wr = ns.map fun n => UInt8.ofNat n.toNat:=by simp [List.map_map,Function.comp_def,Wr]
   rw [hv]
   refine ⟨.string ⟨(ns.map fun n => UInt8.ofNat n.toNat).toArray⟩,?_,Va (by simp; omega)⟩
   have hmain : (Conv.bytesToString (.slice A n cap)).run P w = .ok (.string ⟨(ns.map fun n => UInt8.ofNat n.toNat).toArray⟩) w:=by
    cases A with
    | none =>
     have hz : n = 0:=by
      rcases Nat.eq_zero_or_pos n with h | h
      ·exact h
      ·obtain ⟨_,_,h,_⟩:=hrow h; cases h
     have : ns = []:=List.eq_nil_of_length_eq_zero (by omega)
     subst this
     rfl
    | some ad =>
     rcases Nat.eq_zero_or_pos n with h | h
     ·subst h
      have : ns = []:=List.eq_nil_of_length_eq_zero hlen
      subst this
      have:=run_bytesToString (P:=P) w ad 0 cap [] (by simp [loadCells,loadCellsFrom])
      rw [this,foldl_push]
      simp
     ·obtain ⟨b,off,e,hr⟩:=hrow h
      injection e with e
      subst e
      obtain ⟨us,h3,h4⟩:=hr.list
      have:=Yk h3
      subst this
      have hl:=run_loadCells_list (P:=P) (w:=w) ⟨b,off,none⟩ (ns.map (Value.int .u8)) (fun j v hv => by rw [add_plain]; exact h4 j v hv)
      rw [List.length_map,hlen] at hl
      rw [run_bytesToString (P:=P) w _ n cap ns hl,foldl_push]
      simp
   simp only [convert,Sem.run_bind,run_underlying hus,run_underlying hud,Result.andThen_ok,run_underlying hue,hmain]
  ·exact hc.elim
 ·exact hc.elim
end
def jN (es : Nat) : Value -> Option Int -> V
 | .slice (some ⟨g,0,none⟩) _ _,some i => .tok (.pointer (some ⟨g,i.toNat * es,none⟩))
 | _,_ => .undef
def af : Value -> Option Int -> Prop
 | .slice (some ⟨_,0,none⟩) n _,some i => 0 <= i ∧ i < n
 | _,_ => False
def iaS (σ : PS) (es : Nat) (x i : V) : V:=match x with
 | .tok u => jN es u (NX i)
 | .same s => match σ s,NX i with
  | .uni _ _ _,some i => .cref s (i.toNat * es)
  | _,_ => .undef
 | x => iaV es x i
def Wf (σ : PS) (x i : V) : Prop:=match x with
 | .tok u => af u (NX i)
 | .same s => match σ s,NX i with
  | .uni _ n _,some i => 0 <= i ∧ i < n
  | _,_ => False
 | x => iaC x i
def Wg (σ : PS) (x : V) : V:=match x with
 | .same s => match σ s with
  | .uni _ n _ => .int .i64 n
  | _ => .undef
 | x => lenV x
def OR (d : Option TyD) (σ : PS) (x : V) : Prop:=match x with
 | .same s => match σ s,d with
  | .uni _ _ _,some (.sl ..) => True
  | _,_ => False
 | x => ao d x
def mvV (σ : PS) : Operand -> V
 | .tmp s => match σ s with
  | .uni _ _ _ => .same s
  | .same b => .same b
  | .box _ => .cref s 0
  | .cref b o => .cref b o
  | c => dg c
 | x => dg (opV σ x)
def mvC (σ : PS) : Operand -> Prop
 | .tmp s => match σ s with
  | .uni _ _ _ => True
  | .same _ => True
  | .box _ => True
  | .cref _ _ => True
  | c => c.isVal = true
 | x => (opV σ x).isVal = true
section
variable {P : Program} {nt : Nat} {base : Bs} {bx : List Nat} {St : Nat -> Nat -> Prop} {B : Nat -> List Nat} {hand : List Nat} {σ : PS} {a : Act} {w : World}
theorem Ti (h : HSim P nt bx base St B hand σ a w) {s q : Nat} {e : TypeId} {n : Nat} {cs : List V} (hq : σ q = .same s) (hs : σ s = .uni e n cs) : ∃ g,tm a q = .slice (some ⟨g,0,none⟩) n n ∧ tm a s = .slice (some ⟨g,0,none⟩) n n:=by
 have h1:=h.slot q
 have h2:=h.slot s
 rw [hq] at h1
 rw [hs] at h2
 obtain ⟨g,_,_,e1,_⟩:=h2
 exact ⟨g,by rw [h1.2,e1],e1⟩
theorem TK (h : HSim P nt bx base St B hand σ a w) {ty e : TypeId} {es eb : Nat} {ez : List V} (hd : Agr P ty (.sl e es eb ez)) {s q : Nat} {e' : TypeId} {n : Nat} {cs : List V} (hq : σ q = .same s) (hs : σ s = .uni e' n cs) {d : V} {i : Int} {u : Value} {b2 : List Nat} (hi : NX d = some i) (h2 : A3 P w St (tm a) d u b2) (hc : 0 <= i ∧ i < n) :
  ∃ r,(Instr.indexAt ty (tm a q) u).run P w = .ok r w ∧ A3 P w St (tm a) (.cref s (i.toNat * es)) r []:=by
 obtain ⟨i',j,zv,_,_,_,hu,hj,_,hes,_⟩:=hd
 obtain ⟨g,e1,e2⟩:=Ti h hq hs
 obtain ⟨k,rfl⟩:=Of hi h2
 rw [e1]
 refine ⟨.pointer (some ⟨g,0 + i.toNat * es,none⟩),?_,rfl,g,by rw [e2]; rfl,by rw [Nat.zero_add]⟩
 simp [Instr.indexAt,asIntOf,run_underlying hu,hc,Go.sizeOf,typeInfo,hj,hes,add_plain]
theorem TL {ty e : TypeId} {es eb : Nat} {ez : List V} (hd : Agr P ty (.sl e es eb ez)) {x : Value} {d : V} {u : Value} {b2 : List Nat} {t : Nat -> Value} (h2 : A3 P w St t d u b2) (hc : af x (NX d)) :
  ∃ r,(Instr.indexAt ty x u).run P w = .ok r w ∧ (∃ q,jN es x (NX d) = .tok q) ∧ A3 P w St t (jN es x (NX d)) r []:=by
 obtain ⟨i',j,zv,_,_,_,hu,hj,_,hes,_⟩:=hd
 unfold af at hc
 split at hc
 ·rename_i g n m i hi
  obtain ⟨k,rfl⟩:=Of hi h2
  rw [hi]
  refine ⟨.pointer (some ⟨g,0 + i.toNat * es,none⟩),?_,⟨_,rfl⟩,rfl,by simp,rfl⟩
  simp [Instr.indexAt,asIntOf,run_underlying hu,hc,Go.sizeOf,typeInfo,hj,hes,add_plain]
 ·exact hc.elim
theorem WN (h : HSim P nt bx base St B hand σ a w) {ty rt e : TypeId} {es eb : Nat} {ez : List V} (hd : Agr P ty (.sl e es eb ez)) {s q : Nat} {e' : TypeId} {n : Nat} {cs : List V} (hq : σ q = .same s) (hs : σ s = .uni e' n cs) :
  ∃ r,(Builtin.len_ #[ty] rt #[tm a q]).run P w = .ok r w ∧ A3 P w St (tm a) (.int .i64 n) r []:=by
 obtain ⟨i',j,zv,_,_,_,hu,hj,_,hes,_⟩:=hd
 obtain ⟨g,e1,e2⟩:=Ti h hq hs
 rw [e1]
 exact ⟨_,by simp [Builtin.len_,run_underlying hu,goInt],Jx _ _⟩
end
end Go.Proofs.YtkclaipnejgloaaGreatDoor
namespace Go.Proofs.YtkclaipnejgloaaGreatDoor
open Go.RowKit
set_option linter.unusedVariables false
def Jc (σ : PS) : Callee -> List Operand -> V
 | .builtin .len,[x] => Wg σ (opV σ x)
 | .builtin .max,[x,y] => mxV true (opV σ x) (opV σ y)
 | .builtin .min,[x,y] => mxV false (opV σ x) (opV σ y)
 | _,_ => .undef
def Ku (tb : Tb) (σ : PS) : Callee -> List Operand -> List TypeId -> Prop
 | .builtin .len,[x],[t] => OR (tb t) σ (opV σ x)
 | .builtin .max,[x,y],_ => mxC (opV σ x) (opV σ y)
 | .builtin .min,[x,y],_ => mxC (opV σ x) (opV σ y)
 | _,_,_ => False
def R4 (σ : PS) (a b : Operand) : V -> V
 | .bool q => if q then dg (opV σ a) else dg (opV σ b)
 | _ => .undef
def R3 (σ : PS) (a b : Operand) : V -> Prop
 | .bool q => if q then (opV σ a).isVal = true else (opV σ b).isVal = true
 | _ => False
def a6 (d : Option TyD) (f : Nat) (x : V) : V:=match d with
 | some (.st _ _ fs) => match fs[f]? with
  | some (off,_) => faV off x
  | none => .undef
 | _ => .undef
def XO (d : Option TyD) (f : Nat) (σ : PS) (x : V) : Prop:=match d with
 | some (.st _ _ fs) => match fs[f]? with
  | some _ => faC σ x
  | none => False
 | _ => False
def al (d : Option TyD) (σ : PS) (x i : V) : V:=match d with
 | some (.sl _ es _ _) => iaS σ es x i
 | _ => .undef
def ak (d : Option TyD) (σ : PS) (x i : V) : Prop:=match d with
 | some (.sl ..) => Wf σ x i
 | _ => False
def LR (d : Option TyD) (σ : PS) (x : V) : V:=match d with
 | some d => PX d σ x
 | none => .undef
def LQ (d : Option TyD) (σ : PS) (x : V) : Prop:=match d with
 | some d => N4 d σ x
 | none => False
def pv (tb : Tb) (σ : PS) : Op -> V
 | .move x => mvV σ x
 | .pick c a b => R4 σ a b (opV σ c)
 | .binOp op _ x y _ => YL op (opV σ x) (opV σ y)
 | .unOp op _ x => unV op (opV σ x)
 | .convert _ d x => TF (tb d) (opV σ x)
 | .load t x => LR (tb t) σ (adV σ x)
 | .nilCheck x => adV σ x
 | .fieldAddr t x f => a6 (tb t) f (adV σ x)
 | .indexAddr t x i => al (tb t) σ (opV σ x) (opV σ i)
 | .index _ x i => aw (opV σ x) (opV σ i)
 | .slice t x lo hi none => N8 (tb t) (opV σ x) (lo.map (opV σ)) (hi.map (opV σ))
 | .call c => Jc σ c.callee c.args.toList
 | _ => .undef
def pc (tb : Tb) (σ : PS) : Op -> Prop
 | .move x => mvC σ x
 | .pick c a b => R3 σ a b (opV σ c)
 | .binOp op t x y _ => Wm (tb t) op (opV σ x) (opV σ y)
 | .unOp op _ x => unC op (opV σ x)
 | .convert s d x => TE tb s d (opV σ x)
 | .load t x => LQ (tb t) σ (adV σ x)
 | .nilCheck x => faC σ (adV σ x)
 | .fieldAddr t x f => XO (tb t) f σ (adV σ x)
 | .indexAddr t x i => ak (tb t) σ (opV σ x) (opV σ i)
 | .index t x i => tb t = some (.sc (.str [])) ∧ av (opV σ x) (opV σ i)
 | .slice t x lo hi none => R2 (tb t) (opV σ x) (lo.map (opV σ)) (hi.map (opV σ))
 | .call c => Ku tb σ c.callee c.args.toList c.argTypes.toList
 | _ => False
section
variable {P : Program} {nt : Nat} {base : Bs} {bx : List Nat} {St : Nat -> Nat -> Prop} {B : Nat -> List Nat} {hand : List Nat} {σ : PS} {a : Act} {w : World}
theorem RA (v : Value) : A3 P w St (tm a) (cV v) v []:=by
 unfold cV
 split
 ·exact Jx _ _
 ·exact N6 _
 ·split
  ·rename_i s h; exact ⟨rfl,by cases s; simp,Au h⟩
  ·rfl
 ·exact ⟨rfl,Nat.zero_le _,none,0,rfl,Nat.le_refl _,fun h => absurd h (by omega),fun _ => rfl⟩
 ·rfl
theorem Lp (h : HSim P nt bx base St B hand σ a w) (x : Operand) : ∃ b,A3 P w St (tm a) (opV σ x) (a.eval x) b:=by
 cases x with
 | tmp s => exact ⟨_,h.slot s⟩
 | const v => exact ⟨[],RA v⟩
 | global g => exact ⟨[],rfl⟩
 | func f => exact ⟨[],rfl,rfl⟩
theorem Ow.B9 {c : V} {v : Value} {bs : List Nat} (h : Ow P w St c v bs) : EM c = none ∧ EB c = none:=by
 cases c <;> first | exact ⟨rfl,rfl⟩ | exact h.elim
theorem Ow.MF {c : V} {v : Value} {bs : List Nat} (h : Ow P w St c v bs) {p : Nat -> Prop} : ∀ b,EB c = some b -> p b:=fun b e => by rw [h.B9.2] at e; cases e
def Gives (P : Program) (w : World) (St : Nat -> Nat -> Prop) (σ : PS) (t : Nat -> Value) (c : V) (v : Value) (bs : List Nat) : Prop :=
 A3 P w St t c v bs ∧ EM c = none ∧ ∀ b,EB c = some b -> ∃ cs,EM (σ b) = some cs
theorem Gives.ow {t : Nat -> Value} {c : V} {v : Value} {bs : List Nat} (h : Ow P w St c v bs) : Gives P w St σ t c v bs:=⟨h.slot,h.B9.1,h.MF⟩
theorem Gives.of {t : Nat -> Value} {c : V} {v : Value} {bs : List Nat} (h : A3 P w St t c v bs) (hc : c.isVal = true) : Gives P w St σ t c v bs:=.ow (h.ow hc)
theorem Wn {op : BinOp} {d : Option TyD} {c1 c2 : V} (h : Wm d op c1 c2) : (YL op c1 c2).isVal = true:=by
 unfold Wm at h
 split at h <;> first | rfl | exact h.elim | skip
 cases op <;> first | rfl | (exfalso; simp_all; done)
theorem ag {op : UnOp} {c : V} (h : unC op c) : (unV op c).isVal = true:=by
 unfold unC at h
 split at h <;> first | rfl | exact h.elim
theorem Vy {d : Option TyD} {c : V} {lo hi : Option V} (h : R2 d c lo hi) : (N8 d c lo hi).isVal = true:=by
 unfold R2 at h
 split at h
 ·split at h
  ·rename_i hl hh; simp only [N8,hl,hh]; rfl
  ·exact h.elim
 ·cases hsl : Kf c with
  | none => rw [hsl] at h; exact h.elim
  | some z =>
   obtain ⟨n,cs⟩:=z
   rw [hsl] at h
   simp only at h
   split at h
   ·rename_i l q hl hh
    cases c <;> simp only [Kf,Option.some.injEq,Prod.mk.injEq,reduceCtorEq] at hsl <;> obtain ⟨rfl,rfl⟩:=hsl <;> simp [N8,QV,Kf,hl,hh,V.isVal,V.isArg,V.Fq]
   ·exact h.elim
 ·exact h.elim
theorem WO {d : Option TyD} {c : V} (h : ao d c) : (lenV c).isVal = true:=by
 cases c <;> first | rfl | exact h.elim
theorem Vc {b : Bool} {c d : V} (h : mxC c d) : (mxV b c d).isVal = true:=by
 unfold mxC at h
 split at h <;> first | rfl | exact h.elim
theorem pure_run {tb : Tb} (htb : KD P tb) (h : HSim P nt bx base St B hand σ a w) (o : Oper) (hc : pc tb σ o.op) :
  ∃ v,(execOp a.eval o).run P w = .ok (.value v) w ∧ Gives P w St σ (tm a) (pv tb σ o.op) v []:=by
 cases ho : o.op with
 | move x =>
  rw [ho] at hc
  obtain ⟨b,hx⟩:=Lp h x
  refine ⟨a.eval x,by simp [execOp,ho],?_⟩
  have hval : (opV σ x).isVal = true -> Gives P w St σ (tm a) (dg (opV σ x)) (a.eval x) []:=fun hc => .ow ((hx.ow hc).deg hc)
  simp only [pc,pv] at *
  cases x with
  | tmp s =>
   cases hs : σ s with
   | uni e n cs =>
    simp only [mvV,hs]
    exact ⟨⟨rfl,rfl⟩,rfl,fun b e => by simp only [EB,Option.some.injEq] at e; subst e; exact ⟨cs,by rw [hs]; rfl⟩⟩
   | same q =>
    simp only [mvV,hs]
    have h1:=h.slot s
    rw [hs] at h1
    exact ⟨⟨rfl,h1.2⟩,rfl,fun b e => h.crefs s b (by rw [hs]; exact e)⟩
   | box cs =>
    simp only [mvV,hs]
    have h1:=h.slot s
    rw [hs] at h1
    obtain ⟨g,T,bs',arr,e1,_⟩:=h1
    exact ⟨⟨rfl,g,by rw [e1]; rfl,e1⟩,rfl,fun b e => by simp only [EB,Option.some.injEq] at e; subst e; exact ⟨cs,by rw [hs]; rfl⟩⟩
   | cref q o' =>
    simp only [mvV,hs]
    have h1:=h.slot s
    rw [hs] at h1
    exact ⟨⟨rfl,h1.2⟩,rfl,fun b e => h.crefs s b (by rw [hs]; exact e)⟩
   | _ =>
    simp only [mvV,mvC,hs] at hc ⊢
    have:=hval (by show (σ s).isVal = true; rw [hs]; exact hc)
    rw [show opV σ (.tmp s) = σ s from rfl,hs] at this
    exact this
  | const v => exact hval hc
  | global g => exact hval hc
  | func f => exact hval hc
 | pick c x y =>
  rw [ho] at hc
  simp only [pc,pv] at *
  obtain ⟨b,hcc⟩:=Lp h c
  obtain ⟨b1,hx⟩:=Lp h x
  obtain ⟨b2,hy⟩:=Lp h y
  cases hq : opV σ c with
  | bool q =>
   rw [hq] at hc hcc
   have e:=IU hcc
   cases q with
   | true => exact ⟨a.eval x,by simp [execOp,ho,e,asBool],.ow ((hx.ow hc).deg hc)⟩
   | false => exact ⟨a.eval y,by simp [execOp,ho,e,asBool],.ow ((hy.ow hc).deg hc)⟩
  | _ => rw [hq] at hc; exact hc.elim
 | binOp op t x y t' =>
  rw [ho] at hc
  obtain ⟨b1,hx⟩:=Lp h x
  obtain ⟨b2,hy⟩:=Lp h y
  obtain ⟨v,hr,hv⟩:=YM (ty:=t) (x:=x) (y:=y) op hx hy (fun d e => htb _ _ e) hc
  refine ⟨v,?_,.of hv (Wn hc)⟩
  simp only [execOp,ho,Sem.run_bind,hr,Result.andThen_ok,Sem.run_pure]
 | unOp op t x =>
  rw [ho] at hc
  obtain ⟨b1,hx⟩:=Lp h x
  obtain ⟨v,hr,hv⟩:=d8 op hx hc
  refine ⟨v,?_,.of hv (ag hc)⟩
  simp only [execOp,ho,Sem.run_bind,hr,Result.andThen_ok,Sem.run_pure]
 | convert s d x =>
  rw [ho] at hc
  obtain ⟨b1,hx⟩:=Lp h x
  obtain ⟨v,hr,hv⟩:=Wv htb hx hc
  refine ⟨v,?_,.of hv ?_⟩
  ·simp only [execOp,ho,Sem.run_bind,hr,Result.andThen_ok,Sem.run_pure]
  ·simp only [pc,pv,TE] at hc ⊢
   split at hc
   ·rename_i hs hd hx; rw [hd,hx]; rfl
   ·rename_i hs hd
    split at hc
    ·rename_i hsl _; rw [hd,Sw hsl]; rfl
    ·exact hc.elim
   ·exact hc.elim
 | load t x =>
  rw [ho] at hc
  simp only [pc,pv] at *
  cases ht : tb t with
  | none => rw [ht] at hc; exact hc.elim
  | some d =>
   rw [ht] at hc
   obtain ⟨v,hr,hv⟩:=WQ h (htb _ _ ht) (x:=x) hc
   refine ⟨v,?_,.ow hv⟩
   simp only [execOp,ho,Sem.run_bind,hr,Result.andThen_ok,Sem.run_pure]
 | nilCheck x =>
  rw [ho] at hc
  simp only [pc,pv] at *
  cases e : adV σ x with
  | cref s o' =>
   rw [e] at hc
   obtain ⟨cs,hs⟩:=hc
   obtain ⟨g,T,bs',arr',h1,h2,_⟩:=JI h e hs
   refine ⟨.pointer (some ⟨g,o',none⟩),?_,⟨rfl,g,h2,rfl⟩,rfl,fun b e => ?_⟩
   ·simp only [execOp,ho,h1]; rfl
   ·simp only [EB,Option.some.injEq] at e; subst e; exact ⟨cs,hs⟩
  | adr cs o' =>
   obtain ⟨b,o2,h1,h2⟩:=Rn h e
   refine ⟨.pointer (some ⟨b,o2,none⟩),?_,⟨rfl,b,o2,rfl,h2⟩,rfl,fun b e => by cases e⟩
   simp only [execOp,ho,h1]; rfl
  | tok u =>
   rw [e] at hc
   obtain ⟨g,o2,rfl⟩:=UX hc
   have h1:=Np h e
   refine ⟨.pointer (some ⟨g,o2,none⟩),?_,⟨rfl,rfl,rfl⟩,rfl,fun b e => by cases e⟩
   simp only [execOp,ho,h1]; rfl
  | _ => rw [e] at hc; exact hc.elim
 | fieldAddr t x f =>
  rw [ho] at hc
  simp only [pc,pv] at *
  cases ht : tb t with
  | none => rw [ht] at hc; exact hc.elim
  | some d =>
   rw [ht] at hc
   cases d with
   | sc z => exact hc.elim
   | sl e es eb ez => exact hc.elim
   | st n z fs =>
    simp only [XO,a6] at *
    cases hf : fs[f]? with
    | none => rw [hf] at hc; exact hc.elim
    | some q =>
     obtain ⟨off,sz⟩:=q
     rw [hf] at hc
     simp only at *
     obtain ⟨v,hr,hv⟩:=Uu h (htb _ _ ht) hf hc
     refine ⟨v,?_,hv,?_,?_⟩
     ·simp only [execOp,ho,Sem.run_bind,hr,Result.andThen_ok,Sem.run_pure]
     ·cases hx : adV σ x with
      | tok u => exact (V5 off u).1
      | _ => rfl
     ·intro b e
      cases hx : adV σ x with
      | tok u => rw [hx] at e; simp only [faV,(V5 off u).2] at e; cases e
      | cref s o' =>
       rw [hx] at e hc
       simp only [faV,EB,Option.some.injEq] at e
       subst e; exact hc
      | _ => rw [hx] at e; cases e
 | indexAddr t x i =>
  rw [ho] at hc
  simp only [pc,pv] at *
  obtain ⟨b1,hx⟩:=Lp h x
  obtain ⟨b2,hi⟩:=Lp h i
  cases ht : tb t with
  | none => rw [ht] at hc; exact hc.elim
  | some d =>
   rw [ht] at hc
   cases d with
   | sc z => exact hc.elim
   | st n z fs => exact hc.elim
   | sl e es eb ez =>
    simp only [ak,al] at *
    by_cases hsm : ∃ q,opV σ x = .same q
    ·obtain ⟨q,hq⟩:=hsm
     rw [hq] at hc ⊢
     simp only [Wf,iaS] at hc ⊢
     cases x with
     | tmp p =>
      have hp : σ p = .same q:=hq
      split at hc
      ·rename_i e' n cs ix hs hix
       obtain ⟨v,hr,hv⟩:=TK h (htb _ _ ht) hp hs hix hi hc
       refine ⟨v,?_,hv,rfl,fun b e => ?_⟩
       ·have e1 : a.eval (.tmp p) = tm a p:=rfl
        simp only [execOp,ho,Sem.run_bind,e1,hr,Result.andThen_ok,Sem.run_pure]
       ·simp only [EB,Option.some.injEq] at e; subst e; exact ⟨cs,by rw [hs]; rfl⟩
      ·exact hc.elim
     | const v => exfalso; simp only [opV,cV] at hq; split at hq <;> (try split at hq) <;> cases hq
     | global g => cases hq
     | func f => cases hq
    by_cases htk : ∃ q,opV σ x = .tok q
    ·obtain ⟨q,hq⟩:=htk
     rw [hq] at hc hx ⊢
     simp only [Wf,iaS] at hc ⊢
     obtain ⟨v,hr,⟨q',hq'⟩,hv⟩:=TL (htb _ _ ht) hi hc
     rw [hq'] at hv ⊢
     refine ⟨v,?_,hv,rfl,fun b e => by cases e⟩
     have e1 : a.eval x = q:=hx.2.1
     simp only [execOp,ho,Sem.run_bind,e1,hr,Result.andThen_ok,Sem.run_pure]
    have h1 : Wf σ (opV σ x) (opV σ i) = iaC (opV σ x) (opV σ i):=by
     cases hx' : opV σ x with
     | same q => exact absurd ⟨q,hx'⟩ hsm
     | tok q => exact absurd ⟨q,hx'⟩ htk
     | _ => rfl
    have h2 : iaS σ es (opV σ x) (opV σ i) = iaV es (opV σ x) (opV σ i):=by
     cases hx' : opV σ x with
     | same q => exact absurd ⟨q,hx'⟩ hsm
     | tok q => exact absurd ⟨q,hx'⟩ htk
     | _ => rfl
    rw [h1] at hc
    rw [h2]
    obtain ⟨v,hr,hv⟩:=TJ (htb _ _ ht) hx hi hc
    have hia : ∃ cs n,iaV es (opV σ x) (opV σ i) = .adr cs n:=by
     unfold iaC at hc
     split at hc
     ·rename_i n cs ix hs hi'
      exact ⟨cs.drop (ix.toNat * es),0,by simp only [iaV,hs,hi']⟩
     ·exact hc.elim
    refine ⟨v,?_,hv,?_,?_⟩
    ·simp only [execOp,ho,Sem.run_bind,hr,Result.andThen_ok,Sem.run_pure]
    ·obtain ⟨_,_,e'⟩:=hia; rw [e']; rfl
    ·intro b e; obtain ⟨_,_,e'⟩:=hia; rw [e'] at e; cases e
 | index t x i =>
  rw [ho] at hc
  simp only [pc,pv] at *
  obtain ⟨b1,hx⟩:=Lp h x
  obtain ⟨b2,hi⟩:=Lp h i
  obtain ⟨v,hr,hv⟩:=Z5 (htb _ _ hc.1) hx hi hc.2
  refine ⟨v,?_,.of hv ?_⟩
  ·simp only [execOp,ho,Sem.run_bind,hr,Result.andThen_ok,Sem.run_pure]
  ·have hc2:=hc.2
   unfold av at hc2
   split at hc2
   ·rename_i s j hs hi'
    have : j.toNat < s.length:=by omega
    simp only [aw,hs,hi',List.getElem?_eq_getElem this]; rfl
   ·exact hc2.elim
 | slice t x lo hi mx =>
  rw [ho] at hc
  cases mx with
  | some m => exact hc.elim
  | none =>
   simp only [pc,pv] at *
   obtain ⟨b1,hx⟩:=Lp h x
   obtain ⟨v,hr,hv⟩:=W5 (ty:=t) (d:=tb t) (fun d e => htb _ _ e) hx (lo:=lo.map (opV σ)) (hi:=hi.map (opV σ)) (vl:=lo.map a.eval) (vh:=hi.map a.eval)
    (fun c e => by
     obtain ⟨y,rfl,rfl⟩:=Option.map_eq_some_iff.1 e
     obtain ⟨b,hy⟩:=Lp h y
     exact ⟨_,b,rfl,hy⟩) (fun e => by cases lo <;> first | rfl | cases e)
    (fun c e => by
     obtain ⟨y,rfl,rfl⟩:=Option.map_eq_some_iff.1 e
     obtain ⟨b,hy⟩:=Lp h y
     exact ⟨_,b,rfl,hy⟩) (fun e => by cases hi <;> first | rfl | cases e) hc
   refine ⟨v,?_,.of hv ?_⟩
   ·simp only [execOp,ho,Sem.run_bind,Option.map_none,hr,Result.andThen_ok,Sem.run_pure]
   ·exact Vy hc
 | call c =>
  rw [ho] at hc
  simp only [pc,pv] at *
  obtain ⟨callee,args,ts⟩:=c
  simp only at *
  obtain ⟨args,rfl⟩ : ∃ l : List Operand,args = l.toArray:=⟨args.toList,by simp⟩
  obtain ⟨ts,rfl⟩ : ∃ l : List TypeId,ts = l.toArray:=⟨ts.toList,by simp⟩
  change Ku tb σ callee args ts at hc
  change ∃ v,_ ∧ Gives P w St σ (tm a) (Jc σ callee args) v []
  unfold Ku at hc
  split at hc
  ·rename_i x t
   obtain ⟨b1,hx⟩:=Lp h x
   by_cases hsm : ∃ q,opV σ x = .same q
   ·obtain ⟨q,hq⟩:=hsm
    simp only [Jc]
    rw [hq] at hc ⊢
    simp only [OR,Wg] at hc ⊢
    cases x with
    | tmp p =>
     have hp : σ p = .same q:=hq
     split at hc
     ·rename_i e' n cs e es eb ez hs ht
      obtain ⟨v,hr,hv⟩:=WN (rt:=o.type) h (htb _ _ ht) hp hs
      simp only [hs]
      refine ⟨v,?_,.of hv rfl⟩
      have e1 : a.eval (.tmp p) = tm a p:=rfl
      simp only [execOp,ho,resolve,invoke,builtin,Sem.run_bind,Sem.run_pure,Result.andThen_ok,List.map_toArray,List.map_cons,List.map_nil,e1,hr]
     ·exact hc.elim
    | const v => exfalso; simp only [opV,cV] at hq; split at hq <;> (try split at hq) <;> cases hq
    | global g => cases hq
    | func f => cases hq
   have h1 : OR (tb t) σ (opV σ x) = ao (tb t) (opV σ x):=by
    cases hx' : opV σ x <;> first | rfl | exact absurd ⟨_,hx'⟩ hsm
   have h2 : Wg σ (opV σ x) = lenV (opV σ x):=by
    cases hx' : opV σ x <;> first | rfl | exact absurd ⟨_,hx'⟩ hsm
   rw [h1] at hc
   simp only [Jc,h2]
   obtain ⟨v,hr,hv⟩:=Zm (rt:=o.type) (fun d e => htb _ _ e) hx hc
   refine ⟨v,?_,.of hv ?_⟩
   ·simp only [execOp,ho,resolve,invoke,builtin,Sem.run_bind,Sem.run_pure,Result.andThen_ok,List.map_toArray,List.map_cons,List.map_nil,hr]
   ·exact WO hc
  ·rename_i x y
   obtain ⟨b1,hx⟩:=Lp h x
   obtain ⟨b2,hy⟩:=Lp h y
   obtain ⟨v,hr,hv⟩:=Zt (rt:=o.type) (ts:=ts.toArray) hx hy hc
   refine ⟨v,?_,.of hv ?_⟩
   ·simp only [execOp,ho,resolve,invoke,builtin,Sem.run_bind,Sem.run_pure,Result.andThen_ok,List.map_toArray,List.map_cons,List.map_nil,hr]
   ·simp only [Jc]; exact Vc hc
  ·rename_i x y
   obtain ⟨b1,hx⟩:=Lp h x
   obtain ⟨b2,hy⟩:=Lp h y
   obtain ⟨v,hr,hv⟩:=Zu (rt:=o.type) (ts:=ts.toArray) hx hy hc
   refine ⟨v,?_,.of hv ?_⟩
   ·simp only [execOp,ho,resolve,invoke,builtin,Sem.run_bind,Sem.run_pure,Result.andThen_ok,List.map_toArray,List.map_cons,List.map_nil,hr]
   ·simp only [Jc]; exact Vc hc
  ·exact hc.elim
 | _ => rw [ho] at hc; exact hc.elim
end
end Go.Proofs.YtkclaipnejgloaaGreatDoor
namespace Go.Proofs.YtkclaipnejgloaaGreatDoor
open Go.RowKit
set_option linter.unusedVariables false
theorem Xe {P : Program} (w : World) (t ty e : TypeId) (z : Value) (size bytes : Nat) (ht : P.underlying t = some (.slice e))
  (hinfo : (P.info? e).map (fun i => (i.zero,i.size,i.bytes)) = some (some z,size,bytes)) (hzs : z.cells.size = size) (hsz : 0 < size) (hby : 0 < bytes)
  (v : Value) (n : Nat) (xs : List Value) (hown : w.ownsRow 0 e size v n xs)
  (vx : Value) (m : Nat) (news : List Value) (hr : JH w size vx m news) (h1 : ∀ u ∈ news,u.oneCell' = true) (hbytes : (n + m) * bytes <= 140737488355328) :
  ∃ v' w',(Builtin.append_ #[t,t] ty #[v,vx]).run P w = .ok v' w' ∧ w'.ownsRow 0 e size v' (n + m) (xs ++ news) ∧ w.grownBy w' v.ownBlock ∧
   (v'.ownBlock = v.ownBlock ∨ v'.ownBlock = some w.heap.size) ∧ ∀ g,v.ownBlock = some g -> ∀ o,o < n * size -> w'.cell? ⟨g,o,none⟩ = w.cell? ⟨g,o,none⟩:=by
 obtain ⟨i,hi,hzz⟩:=Option.map_eq_some_iff.1 hinfo
 simp only [Prod.mk.injEq] at hzz
 obtain ⟨hz,hs,hb⟩:=hzz
 have h63 : n + m <= maxLen:=by
  have : n + m <= (n + m) * bytes:=Nat.le_mul_of_pos_right _ hby
  unfold maxLen; omega
 have hr':=hr
 obtain ⟨A,c,rfl,_⟩:=hr'
 obtain ⟨hl,hnone,hsome⟩:=hr.drop_at
 cases A with
 | none =>
  have hm:=hnone rfl
  subst hm
  have hn : news = []:=List.eq_nil_of_length_eq_zero (by simpa using hl)
  subst hn
  refine ⟨v,w,?_,by simpa using hown,World.grownBy.refl w _,.inl rfl,fun _ _ _ _ => rfl⟩
  rcases hown.2 with ⟨rfl,rfl⟩ | ⟨g,cap,cur,rfl,_,_,hnc,_⟩
  ·simp [Builtin.append_,run_underlying ht,sizeOf,typeInfo,hi,Builtin.lenOf,Builtin.firstCells]
  ·simp [Builtin.append_,run_underlying ht,sizeOf,typeInfo,hi,Builtin.lenOf,Builtin.firstCells,hnc,storeCells]
 | some ad =>
  obtain ⟨v',w',hrun,h2,h3,_,h5⟩:=run_append_own_at (P:=P) w 0 t ty e i z size bytes ht hi hz hs hb hzs hsz v n xs hown ad m c news hl (hsome ad rfl) h1 h63 hbytes (Nat.zero_le _)
  refine ⟨v',w',hrun,h2,h3,h5,fun g hg o ho => ?_⟩
  rcases hown.2 with ⟨rfl,rfl⟩ | ⟨g',cap,cur,rfl,_,hh,hnc,hcm,hcs,hx⟩
  ·cases hg
  ·simp only [Value.ownBlock,Option.some.injEq] at hg
   subst hg
   have hold : w.cell? ⟨g',o,none⟩ = xs[o]?:=by
    simp only [World.cell?,hh,Option.isSome_none,Bool.false_eq_true,if_false]
    rw [<- hx,List.getElem?_take,if_pos ho]
    simp
   by_cases hroom : n + m <= cap
   ·subst hs
    have hfit : n * i.size + news.length <= cur.size:=by rw [hl,hcs,<- Nat.add_mul]; exact Nat.mul_le_mul_right _ hroom
    have hr:=run_append_room (P:=P) w t ty e i ht hi g' n cap cur hh ad m c news hl (hsome ad rfl) h1 hroom hfit
    rw [hr] at hrun
    injection hrun with e1 e2
    subst e1
    rcases h2.2 with ⟨h,_⟩ | ⟨g2,cap2,cur2,e3,_,hh2,_,_,_,hx2⟩
    ·cases h
    ·injection e3 with e3 e4 e5
     injection e3 with e3
     injection e3 with e3
     subst e3
     rw [hold]
     simp only [World.cell?,hh2,Option.isSome_none,Bool.false_eq_true,if_false]
     have h7 : (cur2.toList.take ((n + m) * i.size))[o]? = (xs ++ news)[o]?:=by rw [hx2]
     rw [List.getElem?_take,if_pos (by rw [Nat.add_mul]; omega),List.getElem?_append_left (by rw [hown.1]; exact ho)] at h7
     simpa using h7
   ·subst hs
    have holds : ∀ j u,xs[j]? = some u -> w.cell? ((⟨g',0,none⟩ : Addr).add j) = some u:=hown.cells (g:=g') rfl
    have hr:=run_append_grow (P:=P) w t ty e i z ht hi hz ⟨g',0,none⟩ n cap xs hown.1 holds ad m c news hl (hsome ad rfl) (by omega) (by unfold maxLen at h63; omega) (growslice_fits (by omega) (by rw [hb]; exact hbytes))
    rw [hr] at hrun
    injection hrun with e1 e2
    subst e2
    have hlt : g' < w.heap.size:=by
     rcases Nat.lt_or_ge g' w.heap.size with h | h
     ·exact h
     ·rw [Array.getElem?_eq_none h] at hh; cases hh
    exact (((Below.refl w.heap.size w).drew).alloc (Nat.le_refl _) _).cell (p:=⟨g',o,none⟩) hlt
structure BelowK (K : Nat -> Prop) (w w' : World) : Prop where
 os : w'.os = w.os
 tape : w'.tape = w.tape
 output : w'.output = w.output
 size : w.heap.size <= w'.heap.size
 block : ∀ k,K k -> w'.heap[k]? = w.heap[k]?
theorem BelowK.refl (K : Nat -> Prop) (w : World) : BelowK K w w:=⟨rfl,rfl,rfl,Nat.le_refl _,fun _ _ => rfl⟩
theorem BelowK.trans {K : Nat -> Prop} {a b c : World} (h : BelowK K a b) (k : BelowK K b c) : BelowK K a c :=
 ⟨k.os.trans h.os,k.tape.trans h.tape,k.output.trans h.output,Nat.le_trans h.size k.size,fun i hi => (k.block i hi).trans (h.block i hi)⟩
theorem BelowK.of {K : Nat -> Prop} {n : Nat} {w w' : World} (h : Below n w w') (hz : ∀ b,K b -> b < n) : BelowK K w w':=⟨h.os,h.tape,h.output,h.size,fun k hk => h.block k (hz k hk)⟩
theorem BelowK.below {K : Nat -> Prop} {a w w' : World} (h : BelowK K a w) (h1 : Below w.heap.size w w') (hz : ∀ b,K b -> b < w.heap.size) : BelowK K a w':=h.trans (.of h1 hz)
theorem BelowK.alloc {K : Nat -> Prop} {a w : World} (h : BelowK K a w) (hz : ∀ b,K b -> b < w.heap.size) (ob : Obj) : BelowK K a (w.alloc ob) :=
 h.below ((Below.refl _ _).alloc (Nat.le_refl _) ob) hz
theorem BelowK.grown {K : Nat -> Prop} {a w w' : World} {row : Option Nat} (h : BelowK K a w) (hg : w.grownBy w' row) (hz : ∀ b,K b -> b < w.heap.size) (hr : ∀ k,row = some k -> ¬ K k) : BelowK K a w' :=
 h.trans ⟨hg.os,hg.tape,hg.output,hg.size,fun k hk => hg.block k (hz k hk) (fun e => hr k e.symm hk)⟩
theorem Nh {K : Nat -> Prop} {w : World} (hz : ∀ b,K b -> b < w.heap.size) (ob : Obj) : ∀ b,K b -> b < (w.alloc ob).heap.size:=fun b hb => by have:=hz b hb; simp; omega
theorem QG {K : Nat -> Prop} {w w' : World} (hz : ∀ b,K b -> b < w.heap.size) (h : w.heap.size <= w'.heap.size) : ∀ b,K b -> b < w'.heap.size:=fun b hb => Nat.lt_of_lt_of_le (hz b hb) h
theorem X2 {K : Nat -> Prop} {n : Nat} (hz : ∀ b,K b -> b < n) : ¬ K n:=fun h => Nat.lt_irrefl _ (hz _ h)
def Rel (P : Program) (nt : Nat) (bx : List Nat) (base : Bs) (St0 : Nat -> Nat -> Prop) (w0 : World) (σ : PS) (a : Act) (w : World) : Prop :=
 ∃ St B,HSim P nt bx base St B [] σ a w ∧ BelowK base.K w0 w ∧ (∀ b o,base b -> (St b o ↔ St0 b o)) ∧ ∀ b,base b -> b < w.heap.size
def OpS (P : Program) (nt : Nat) (bx : List Nat) (base : Bs) (St0 : Nat -> Nat -> Prop) (w0 : World) (o : Oper) (σ : PS) (K : PS -> Prop) : Prop :=
 ∀ a w Q,Rel P nt bx base St0 w0 σ a w -> o.wp P a w (fun a' w' => ∃ σ',K σ' ∧ Rel P nt bx base St0 w0 σ' a' w') Q
section
variable {P : Program} {nt : Nat} {base : Bs} {bx : List Nat} {St St' St0 : Nat -> Nat -> Prop} {B : Nat -> List Nat} {hand : List Nat} {σ : PS} {a : Act} {w w' w0 : World} {K : PS -> Prop} {Q : Exit -> Act -> World -> Prop} {o : Oper}
theorem HSim.grow (h : HSim P nt bx base St B hand σ a w) (hb : Below w.heap.size w w') (hst : ∀ b o,b < w.heap.size -> (St' b o ↔ St b o)) (hst' : ∀ b o,St' b o -> b < w'.heap.size) : HSim P nt bx base St' B hand σ a w' :=
 h.world (fun b o hs => (hst b o (h.st b o hs)).2 hs) (fun b o hs => hb.cell (p:=⟨b,o,none⟩) (h.st b o hs)) hb.size (fun s g hg => ⟨hb.block g (h.range s g hg).2,fun o => hst g o (h.range s g hg).2⟩) hst'
theorem Ie {K' : Act -> World -> Prop} {v : Value} (hr : (execOp a.eval o).run P w = .ok (.value v) w') (hk : K' (a.put o.dst v) w') : o.wp P a w K' Q:=by
 unfold Oper.wp; rw [hr]; exact hk
theorem YB {K' : Act -> World -> Prop} (hr : (execOp a.eval o).run P w = .ok .skip w') (hk : K' (a.put o.dst undef) w') : o.wp P a w K' Q:=by
 unfold Oper.wp; rw [hr]; exact hk
theorem P0 {tb : Tb} (htb : KD P tb) {d : Nat} (ho : o.dst = some d) (hd : d < nt) (hx : d ∉ bx) (hc : pc tb σ o.op) (hk : K (upd σ d (pv tb σ o.op))) : OpS P nt bx base St0 w0 o σ K:=by
 rintro a w Q ⟨St,B,h,hb,hst,hz⟩
 obtain ⟨v,hr,hs,hn,hcr⟩:=pure_run htb h o hc
 refine Ie hr ⟨_,hk,St,upd B d [],?_,hb,hst,hz⟩
 rw [ho]
 exact h.put hd hx hs List.nodup_nil (by simp) hn hcr
def Bw (σ : PS) : Operand -> PS
 | .tmp s => upd σ s (dg (σ s))
 | _ => σ
theorem Lw (h : HSim P nt bx base St B hand σ a w) (x : Operand) (hv : (opV σ x).isVal = true) :
  ∃ bs B',Ow P w St (opV σ x) (a.eval x) bs ∧ HSim P nt bx base St B' (hand ++ bs) (Bw σ x) a w ∧ (hand ++ bs).Nodup:=by
 cases x with
 | tmp s =>
  obtain ⟨h1,h2⟩:=h.take s hv
  exact ⟨B s,_,h1,h2,h2.hnodup⟩
 | const v => exact ⟨[],B,(RA (a:=a) v).ow hv,by simpa [Bw] using h,by simpa using h.hnodup⟩
 | global g => cases hv
 | func f => exact ⟨[],B,⟨rfl,rfl⟩,by simpa [Bw] using h,by simpa using h.hnodup⟩
theorem P1 {x : Operand} {d : Nat} (hop : o.op = .assign x ∨ o.op = .move x) (ho : o.dst = some d) (hd : d < nt) (hx : d ∉ bx) (hv : (opV σ x).isVal = true) (hk : K (upd (Bw σ x) d (opV σ x))) : OpS P nt bx base St0 w0 o σ K:=by
 rintro a w Q ⟨St,B,h,hb,hst,hz⟩
 obtain ⟨bs,B',h1,h2,h3⟩:=Lw h x hv
 have hr : (execOp a.eval o).run P w = .ok (.value (a.eval x)) w:=by rcases hop with e | e <;> simp [execOp,e]
 refine Ie hr ⟨_,hk,St,upd B' d bs,?_,hb,hst,hz⟩
 rw [ho]
 exact h2.put hd hx h1.slot (by simpa using h3) (by simp) h1.B9.1 h1.MF
theorem ZF {d : Nat} {e : TypeId} (hop : o.op = .assign (.const (.slice none 0 0)) ∨ o.op = .move (.const (.slice none 0 0))) (ho : o.dst = some d) (hd : d < nt) (hx : d ∉ bx) (hk : K (upd σ d (.own e 0 []))) : OpS P nt bx base St0 w0 o σ K:=by
 rintro a w Q ⟨St,B,h,hb,hst,hz⟩
 have hr : (execOp a.eval o).run P w = .ok (.value (.slice none 0 0)) w:=by rcases hop with e | e <;> simp [execOp,e,Act.eval]
 refine Ie hr ⟨_,hk,St,upd B d [],?_,hb,hst,hz⟩
 rw [ho]
 have hw : Ow P w St (.own e 0 []) (.slice none 0 0) []:=⟨Nat.zero_le _,[],[],World.ownsRow_nil _ _ _ _,⟨rfl,rfl⟩,rfl,(fun g hg => by cases hg),fun _ => rfl⟩
 exact h.put hd hx hw.slot List.nodup_nil (by simp) hw.B9.1 hw.MF
theorem W2 {d : Nat} (hop : o.op = .assign (.const (.pointer none)) ∨ o.op = .move (.const (.pointer none))) (ho : o.dst = some d) (hd : d < nt) (hx : d ∉ bx) (hk : K (upd σ d .undef)) : OpS P nt bx base St0 w0 o σ K:=by
 rintro a w Q ⟨St,B,h,hb,hst,hz⟩
 have hr : (execOp a.eval o).run P w = .ok (.value (.pointer none)) w:=by rcases hop with e | e <;> simp [execOp,e,Act.eval]
 refine Ie hr ⟨_,hk,St,upd B d [],?_,hb,hst,hz⟩
 rw [ho]
 exact h.put hd hx (c:=.undef) rfl List.nodup_nil (by simp) rfl (fun b e => by cases e)
theorem IA.split : ∀ (cs : List V) (i : Nat) {us : List Value} {bs : List Nat} {c : V},IA P w St cs us bs -> cs[i]? = some c -> cs.all V.isArg = true -> bs.Nodup -> ∃ u b1 b2,us[i]? = some u ∧ Ow P w St c u b1 ∧ IA P w St (cs.set i (dg2 c)) us b2 ∧ b1.Nodup ∧ b2.Nodup ∧ (∀ g ∈ b1,g ∈ bs) ∧ (∀ g ∈ b2,g ∈ bs) ∧ ∀ g ∈ b1,g ∉ b2
 | [],i,_,_,_,_,e,_,_ => by simp at e
 | d :: cs,0,_,_,c,⟨u,us',b1,b2,e1,e2,h1,h2⟩,e,ha,hn => by
  simp only [List.getElem?_cons_zero,Option.some.injEq] at e
  subst e
  simp only [List.all_cons,Bool.and_eq_true] at ha
  rw [e2] at hn ⊢
  have hn':=List.nodup_append.1 hn
  refine ⟨u,b1,b2,by rw [e1]; rfl,h1,⟨u,us',[],b2,e1,rfl,h1.Md ha.1,h2⟩,hn'.1,hn'.2.1,fun g hg => List.mem_append_left _ hg,fun g hg => List.mem_append_right _ hg,fun g hg hg' => hn'.2.2 g hg g hg' rfl⟩
 | d :: cs,i + 1,_,_,c,⟨u,us',b1,b2,e1,e2,h1,h2⟩,e,ha,hn => by
  simp only [List.all_cons,Bool.and_eq_true] at ha
  rw [e2] at hn ⊢
  have hn':=List.nodup_append.1 hn
  obtain ⟨x,c1,c2,h3,h4,h5,n1,n2,s1,s2,ap⟩:=IA.split cs i h2 (by simpa using e) ha.2 hn'.2.1
  refine ⟨x,c1,b1 ++ c2,by rw [e1]; simpa using h3,h4,⟨u,us',b1,c2,e1,rfl,h1,h5⟩,n1,?_,fun g hg => List.mem_append_right _ (s1 g hg),fun g hg => ?_,fun g hg hg' => ?_⟩
  ·exact List.nodup_append.2 ⟨hn'.1,n2,fun x hx y hy exy => hn'.2.2 x hx y (s2 y hy) exy⟩
  ·rcases List.mem_append.1 hg with h | h
   ·exact List.mem_append_left _ h
   ·exact List.mem_append_right _ (s2 g h)
  ·rcases List.mem_append.1 hg' with h | h
   ·exact hn'.2.2 g h g (s1 g hg) rfl
   ·exact ap g hg h
theorem HSim.part (h : HSim P nt bx base St B hand σ a w) (s : Nat) (hold : EM (σ s) = none) {c : V} {b1 b2 : List Nat} (hc : A3 P w St (tm a) c (tm a s) b2) (hnb : EM c = none) (hcr : EB c = none)
  (n1 : b1.Nodup) (n2 : b2.Nodup) (s1 : ∀ g ∈ b1,g ∈ B s) (s2 : ∀ g ∈ b2,g ∈ B s) (hap : ∀ g ∈ b1,g ∉ b2) : HSim P nt bx base St (upd B s b2) (hand ++ b1) (upd σ s c) a w:=by
 have hB : ∀ q,∀ g ∈ upd B s b2 q,g ∈ B q:=by
  intro q g hg
  by_cases e : q = s
  ·subst e; rw [upd_same] at hg; exact s2 g hg
  ·rw [upd_ne _ _ e] at hg; exact hg
 exact
 { h with
  slot:=fun q => by
   by_cases e : q = s
   ·subst e; rw [upd_same,upd_same]; exact hc
   ·rw [upd_ne _ _ e,upd_ne _ _ e]; exact h.slot q
  boxes:=fun q cs e => by
   by_cases eq : q = s
   ·subst eq; rw [upd_same,hnb] at e; cases e
   ·rw [upd_ne _ _ eq] at e; exact h.boxes q cs e
  crefs:=fun q b e => by
   by_cases eq : q = s
   ·subst eq; rw [upd_same,hcr] at e; cases e
   ·rw [upd_ne _ _ eq] at e
    obtain ⟨cs,hcs⟩:=h.crefs q b e
    refine ⟨cs,?_⟩
    rw [upd_ne _ _ (fun eb => by subst eb; rw [hold] at hcs; cases hcs)]; exact hcs
  nodup:=fun q => by
   by_cases e : q = s
   ·subst e; rw [upd_same]; exact n2
   ·rw [upd_ne _ _ e]; exact h.nodup q
  apart:=fun q r hqr g hg hg' => h.apart q r hqr g (hB q g hg) (hB r g hg')
  hnodup:=List.nodup_append.2 ⟨h.hnodup,n1,fun x hx y hy e => by subst e; exact h.hapart s x (s1 x hy) hx⟩
  hapart:=fun q g hg hm => by
   rcases List.mem_append.1 hm with hm | hm
   ·exact h.hapart q g (hB q g hg) hm
   ·by_cases e : q = s
    ·subst e; rw [upd_same] at hg; exact hap g hm hg
    ·exact h.apart q s e g (hB q g hg) (s1 g hm)
  range:=fun q g hg => h.range q g (hB q g hg)
  hrange:=fun g hg => by
   rcases List.mem_append.1 hg with hg | hg
   ·exact h.hrange g hg
   ·exact h.range s g (s1 g hg) }
theorem R0 {s i d : Nat} (hop : o.op = .extract (.tmp s) i) (ho : o.dst = some d) (hd : d < nt) (hx : d ∉ bx) {cs : List V} {c : V} (hs : σ s = .tup cs) (hi : cs[i]? = some c) (ha : cs.all V.isArg = true)
  (hk : K (upd (upd σ s (.tup (cs.set i (dg2 c)))) d c)) : OpS P nt bx base St0 w0 o σ K:=by
 rintro a w Q ⟨St,B,h,hb,hst,hz⟩
 have hsl:=h.slot s
 rw [hs] at hsl
 obtain ⟨us,e1,h1⟩:=hsl
 obtain ⟨u,b1,b2,h2,h3,h4,n1,n2,s1,s2,ap⟩:=IA.split cs i h1 hi ha (h.nodup s)
 have hr : (execOp a.eval o).run P w = .ok (.value u) w:=by
  have e2 : a.eval (.tmp s) = .tuple us.toArray:=e1
  simp [execOp,hop,e2,Instr.extract,h2]
 have h5:=h.part s (by rw [hs]; rfl) (c:=.tup (cs.set i (dg2 c))) (b1:=b1) (b2:=b2) ⟨us,e1,h4⟩ rfl rfl n1 n2 s1 s2 ap
 refine Ie hr ⟨_,hk,St,upd (upd B s b2) d b1,?_,hb,hst,hz⟩
 rw [ho]
 exact h5.put hd hx h3.slot n1 (by simp) h3.B9.1 h3.MF
theorem AC.app : ∀ {cs ds : List V} {us : List Value} {bs : List Nat},AC P w St (cs ++ ds) us bs -> ∃ us1 us2 b1 b2,us = us1 ++ us2 ∧ bs = b1 ++ b2 ∧ AC P w St cs us1 b1 ∧ AC P w St ds us2 b2
 | [],ds,us,bs,h => ⟨[],us,[],bs,rfl,rfl,⟨rfl,rfl⟩,h⟩
 | c :: cs,ds,us,bs,⟨u,us',b1,b2,e1,e2,hc,h1,h2⟩ => by
  obtain ⟨us1,us2,c1,c2,e3,e4,h3,h4⟩:=AC.app h2
  exact ⟨u :: us1,us2,b1 ++ c1,c2,by rw [e1,e3]; rfl,by rw [e2,e4,List.append_assoc],⟨u,us1,b1,c1,rfl,rfl,hc,h1,h3⟩,h4⟩
theorem AC.join : ∀ {cs ds : List V} {us1 us2 : List Value} {b1 b2 : List Nat},AC P w St cs us1 b1 -> AC P w St ds us2 b2 -> AC P w St (cs ++ ds) (us1 ++ us2) (b1 ++ b2)
 | [],ds,_,us2,_,b2,⟨e1,e2⟩,h => by subst e1 e2; exact h
 | c :: cs,ds,_,us2,_,b2,⟨u,us',c1,c2,e1,e2,hc,h1,h2⟩,h => ⟨u,us' ++ us2,c1,c2 ++ b2,by rw [e1]; rfl,by rw [e2,List.append_assoc],hc,h1,AC.join h2 h⟩
def GG : V -> List V
 | .agg cs => cs
 | c => [c]
theorem Ow.cells {c : V} {v : Value} {bs : List Nat} (h : Ow P w St c v bs) (hc : c.isArg = true) : AC P w St (GG c) v.cells.toList bs:=by
 have key : ∀ c : V,c.Fq = true -> Ow P w St c v bs -> AC P w St [c] v.cells.toList bs:=by
  intro c hc h
  have h1:=(Ow.rd c h hc).oneCell
  have : v.cells = #[v]:=by cases v <;> first | rfl | cases h1
  rw [this]
  exact ⟨v,[],bs,[],rfl,by simp,hc,h,rfl,rfl⟩
 cases c <;> first | exact key _ hc h | cases hc | skip
 obtain ⟨us,rfl,h⟩:=h
 exact h
def Oy {α : Type} (cs : List α) (off : Nat) (new : List α) : List α:=cs.take off ++ new ++ cs.drop (off + new.length)
theorem Od {α : Type} {cs new : List α} {off : Nat} (h : off + new.length <= cs.length) : (Oy cs off new).length = cs.length:=by
 simp [Oy]; omega
theorem Ta {α : Type} (cs : List α) (off n : Nat) : cs = cs.take off ++ ((cs.drop off).take n ++ cs.drop (off + n)):=by
 rw [<- List.drop_drop,List.take_append_drop,List.take_append_drop]
theorem HSim.ku (h : HSim P nt bx base St B hand σ a w) {s g : Nat} {cs cs' : List V} {c' : V} {bs' : List Nat} (hcs : EM (σ s) = some cs) (hcs' : EM c' = some cs') (hB : B s = g :: bs') (hng : ∀ o,¬ St g o) (hkeep : ∀ k,k ≠ g -> w'.heap[k]? = w.heap[k]?) (hz : w'.heap.size = w.heap.size)
  {bs : List Nat} {hand' : List Nat} (hc : A3 P w' St (tm a) c' (tm a s) bs)
  (hn : bs.Nodup) (hs : ∀ g ∈ bs,g ∈ B s ∨ g ∈ hand) (hn' : hand'.Nodup) (hs' : ∀ g ∈ hand',g ∈ B s ∨ g ∈ hand) (hap : ∀ g ∈ bs,g ∉ hand') :
  HSim P nt bx base St (upd B s bs) hand' (upd σ s c') a w':=by
 have hrf : EB c' = none:=by cases c' <;> first | rfl | cases hcs'
 have hbox : ∀ b,(∃ cs,EM (σ b) = some cs) -> ∃ cs'',EM (upd σ s c' b) = some cs'':=fun b ⟨cs,e⟩ => by
  by_cases eb : b = s
  ·subst eb; exact ⟨cs',by rw [upd_same]; exact hcs'⟩
  ·exact ⟨cs,by rw [upd_ne _ _ eb]; exact e⟩
 have hout : ∀ q,q ≠ s -> ∀ g ∈ B q,¬ (g ∈ B s ∨ g ∈ hand):=fun q hq g hg hm => by
  rcases hm with hm | hm
  ·exact h.apart q s hq g hg hm
  ·exact h.hapart q g hg hm
 refine
 {size:=h.size
  defers:=h.defers
  slot:=fun q => by
   by_cases e : q = s
   ·subst e; rw [upd_same,upd_same]; exact hc
   ·rw [upd_ne _ _ e,upd_ne _ _ e]
    refine (h.slot q).mono (fun _ _ h => h) (fun b o hs => ?_) (fun k hk => ⟨hkeep k (fun ek => ?_),fun _ => Iff.rfl⟩) (fun _ _ => rfl)
    ·exact World.cell?_of_block (hkeep b (fun eb => hng o (eb ▸ hs)))
    ·subst ek; exact h.apart q s e k hk (by rw [hB]; simp)
  boxes:=fun q cs e => by
   by_cases eq : q = s
   ·subst eq; exact h.boxes _ _ hcs
   ·rw [upd_ne _ _ eq] at e; exact h.boxes q cs e
  crefs:=fun q b e => by
   by_cases eq : q = s
   ·subst eq; rw [upd_same,hrf] at e; cases e
   ·rw [upd_ne _ _ eq] at e; exact hbox b (h.crefs q b e)
  nodup:=fun q => by
   by_cases e : q = s
   ·subst e; rw [upd_same]; exact hn
   ·rw [upd_ne _ _ e]; exact h.nodup q
  apart:=fun q r hqr g hg hg' => by
   by_cases e : q = s
   ·subst e; rw [upd_same] at hg; rw [upd_ne _ _ (Ne.symm hqr)] at hg'; exact hout r (Ne.symm hqr) g hg' (hs g hg)
   ·rw [upd_ne _ _ e] at hg
    by_cases e' : r = s
    ·subst e'; rw [upd_same] at hg'; exact hout q e g hg (hs g hg')
    ·rw [upd_ne _ _ e'] at hg'; exact h.apart q r hqr g hg hg'
  hnodup:=hn'
  hapart:=fun q g hg hm => by
   by_cases e : q = s
   ·subst e; rw [upd_same] at hg; exact hap g hg hm
   ·rw [upd_ne _ _ e] at hg; exact hout q e g hg (hs' g hm)
  range:=fun q g hg => by
   rw [hz]
   by_cases e : q = s
   ·subst e; rw [upd_same] at hg
    rcases hs g hg with h1 | h1
    ·exact h.range _ g h1
    ·exact h.hrange g h1
   ·rw [upd_ne _ _ e] at hg; exact h.range q g hg
  hrange:=fun g hg => by
   rw [hz]
   rcases hs' g hg with h1 | h1
   ·exact h.range _ g h1
   ·exact h.hrange g h1
  st:=fun b o hs => by rw [hz]; exact h.st b o hs
  gl:=h.gl.of (fun b hb o => hb o) (fun b o hb => World.cell?_of_block (hkeep b (fun eb => hng o (eb ▸ hb o))))
  pin:=h.pin }
end
end Go.Proofs.YtkclaipnejgloaaGreatDoor
namespace Go.Proofs.YtkclaipnejgloaaGreatDoor
open Go.RowKit
set_option linter.unusedVariables false
def JW (d : TyD) (cs : List V) (off : Nat) : V :=
 match d with
 | .st n _ _ => .agg ((cs.drop off).take n)
 | _ => match cs[off]? with
  | some c => c
  | none => .undef
def IQ (n : Nat) (cs : List V) (off : Nat) : List V:=Oy cs off (((cs.drop off).take n).map dg1)
section
variable {P : Program} {nt : Nat} {base : Bs} {bx : List Nat} {St St' St0 : Nat -> Nat -> Prop} {B : Nat -> List Nat} {hand : List Nat} {σ : PS} {a : Act} {w w' w0 : World} {K : PS -> Prop} {Q : Exit -> Act -> World -> Prop} {o : Oper}
theorem take_one {α : Type} {cs : List α} {off : Nat} (h : off < cs.length) : (cs.drop off).take 1 = [cs[off]]:=by
 rw [List.drop_eq_getElem_cons h,List.take_succ_cons,List.take_zero]
theorem QP {tb : Tb} (htb : KD P tb) {t : TypeId} {dd : TyD} {x : Operand} {s off d : Nat} {cs : List V} (hop : o.op = .load t x) (ht : tb t = some dd) (hax : adV σ x = .cref s off) (hs : EM (σ s) = some cs) (hl : off + dd.size <= cs.length)
  (ho : o.dst = some d) (hd : d < nt) (hx : d ∉ bx) (hk : K (upd (upd σ s (M6 (σ s) (IQ dd.size cs off))) d (JW dd cs off))) : OpS P nt bx base St0 w0 o σ K:=by
 rintro a w Q ⟨St,B,h,hb,hst,hz⟩
 obtain ⟨g,T,bs',arr,h1,h2,h3,h4,h5,h6⟩:=JI h hax hs
 have hlc : N4 dd σ (adV σ x):=by rw [hax]; simp only [N4,hs]; exact hl
 have hagr:=htb _ _ ht
 have e0:=Ta cs off dd.size
 rw [e0] at h4
 obtain ⟨us1,us2,b1,b2,eu,eb,r1,r2⟩:=AC.app h4
 obtain ⟨us3,us4,b3,b4,eu',eb',r3,r4⟩:=AC.app r2
 have l1 : us1.length = off:=by rw [r1.length,List.length_take,Nat.min_eq_left (by omega)]
 have l3 : us3.length = dd.size:=by rw [r3.length,List.length_take,List.length_drop,Nat.min_eq_left (by omega)]
 have hnd : (g :: (b1 ++ (b3 ++ b4))).Nodup:=by have:=h.nodup s; rw [h5,eb,eb'] at this; exact this
 have hcell : ∀ (j : Nat) (u : Value),us3[j]? = some u -> w.cell? ⟨g,off + j,none⟩ = some u:=by
  intro j u hu
  have hj : j < us3.length:=by
   rcases Nat.lt_or_ge j us3.length with h | h
   ·exact h
   ·rw [List.getElem?_eq_none h] at hu; cases hu
  simp only [World.cell?,h3,Option.isSome_none,Bool.false_eq_true,if_false]
  have : arr.toList[off + j]? = some u:=by
   rw [eu,eu',List.getElem?_append_right (by omega),l1,Nat.add_sub_cancel_left,List.getElem?_append_left hj]; exact hu
  simpa using this
 have hval : ∃ v,(execOp a.eval o).run P w = .ok (.value v) w ∧ Ow P w St (JW dd cs off) v b3:=by
  cases hag : dd.TV with
  | true =>
   cases dd with
   | sc z => cases hag
   | sl e es eb ez => cases hag
   | st n z f =>
    refine ⟨.agg us3.toArray,?_,us3,rfl,r3⟩
    have hr:=run_loadCells_list (P:=P) (w:=w) ⟨g,off,none⟩ us3 (fun j v hv => by rw [add_plain]; exact hcell j v hv)
    simp only [TyD.size] at l3
    rw [l3] at hr
    simp [execOp,hop,h1,Instr.loadAt,Instr.sureAddr,loadVar,hagr.isAgg,hagr.sizeOf,TyD.TV,TyD.size,hr]
  | false =>
   have hs1 : dd.size = 1:=by cases dd <;> first | rfl | cases hag
   have hlt : off < cs.length:=by omega
   rw [hs1,take_one hlt] at r3
   obtain ⟨u,us',c1,c2,e1,e2,hc,q1,q2⟩:=r3
   obtain ⟨rfl,rfl⟩:=q2
   have hcl:=hcell 0 u (by rw [e1]; rfl)
   refine ⟨u,?_,?_⟩
   ·have hcell' : w.cell? ⟨g,off,none⟩ = some u:=by simpa using hcl
    simp [execOp,hop,h1,Instr.loadAt,Instr.sureAddr,loadVar,hagr.isAgg,hag,hcell']
   ·have : JW dd cs off = cs[off]:=by
     cases dd <;> first | (simp only [JW,List.getElem?_eq_getElem hlt]; done) | cases hag
    rw [this,e2,List.append_nil]
    exact q1
 obtain ⟨v,hr,hv⟩:=hval
 have hbox : A3 P w St (tm a) (M6 (σ s) (IQ dd.size cs off)) (tm a s) (g :: (b1 ++ b4)):=by
  have hlen : (IQ dd.size cs off).length = cs.length:=Od (by rw [List.length_map,List.length_take,List.length_drop,Nat.min_eq_left (by omega)]; exact hl)
  refine Pk hs (h.slot s) h2 h3 h3 ?_ h6 hlen
  have hj:=r1.join ((AC.TW _ r3).join r4)
  rw [List.nil_append] at hj
  have ll : (((cs.drop off).take dd.size).map dg1).length = dd.size:=by rw [List.length_map,List.length_take,List.length_drop,Nat.min_eq_left (by omega)]
  unfold IQ Oy
  rw [ll,eu,eu',List.append_assoc]
  exact hj
 have hnd2:=List.nodup_cons.1 hnd
 have hnd3:=List.nodup_append.1 hnd2.2
 have hnd4:=List.nodup_append.1 hnd3.2.1
 have hsub : ∀ q ∈ g :: (b1 ++ b4),q ∈ B s ∨ q ∈ ([] : List Nat):=by
  intro q hq
  rw [h5,eb,eb']
  simp only [List.mem_cons,List.mem_append] at *
  rcases hq with h | h | h
  ·exact .inl (.inl h)
  ·exact .inl (.inr (.inl h))
  ·exact .inl (.inr (.inr (.inr h)))
 have hb3 : ∀ q ∈ b3,q ∈ B s:=by
  intro q hq
  rw [h5,eb,eb']
  simp only [List.mem_cons,List.mem_append]
  exact .inr (.inr (.inl hq))
 have h7:=h.dW (hand':=b3) hs (O6 _ _) hbox (List.nodup_cons.2 ⟨fun hm => hnd2.1 (by
   rcases List.mem_append.1 hm with hm | hm
   ·exact List.mem_append_left _ hm
   ·exact List.mem_append_right _ (List.mem_append_right _ hm)),List.nodup_append.2 ⟨hnd3.1,hnd4.2.1,fun x hx y hy => hnd3.2.2 x hx y (List.mem_append_right _ hy)⟩⟩) hsub hnd4.1 (fun q hq => .inl (hb3 q hq)) (by
  intro q hq hq3
  rcases List.mem_cons.1 hq with rfl | hq
  ·exact hnd2.1 (List.mem_append_right _ (List.mem_append_left _ hq3))
  ·rcases List.mem_append.1 hq with hq | hq
   ·exact hnd3.2.2 q hq q (List.mem_append_left _ hq3) rfl
   ·exact hnd4.2.2 q hq3 q hq rfl)
 refine Ie hr ⟨_,hk,St,upd (upd B s (g :: (b1 ++ b4))) d b3,?_,hb,hst,hz⟩
 rw [ho]
 exact h7.put hd hx hv.slot hnd4.1 (by simp) hv.B9.1 hv.MF
theorem Xt {y : Operand} {s : Nat} {cs : List V} (hs : EM (σ s) = some cs) (hv : (opV σ y).isVal = true) : Bw σ y s = σ s:=by
 cases y with
 | tmp q =>
  simp only [Bw]
  by_cases e : s = q
  ·subst e; rw [show opV σ (.tmp s) = σ s from rfl] at hv; rw [(KM hv).1] at hs; cases hs
  ·rw [upd_ne _ _ e]
 | _ => rfl
theorem Xs {x y : Operand} {s off : Nat} (hax : adV σ x = .cref s off) (hv : (opV σ y).isVal = true) : adV (Bw σ y) x = .cref s off:=by
 cases y with
 | tmp q =>
  cases x with
  | tmp p =>
   have hpq : p ≠ q:=by
    intro e; subst e
    rw [show opV σ (.tmp p) = σ p from rfl] at hv
    simp only [adV] at hax
    split at hax
    ·rename_i h; rw [h] at hv; cases hv
    ·rw [hax] at hv; cases hv
   simp only [Bw,adV] at *
   rw [upd_ne _ _ hpq]; exact hax
  | _ => exact hax
 | _ => exact hax
theorem Vu {tb : Tb} (htb : KD P tb) {t : TypeId} {dd : TyD} {x y : Operand} {s off : Nat} {cs : List V} (hop : o.op = .store t x y) (ht : tb t = some dd) (hax : adV σ x = .cref s off) (hs : EM (σ s) = some cs)
  (hv : (opV σ y).isArg = true) (hn : (GG (opV σ y)).length = dd.size) (hl : off + dd.size <= cs.length) (ho : o.dst = none) (hk : K (upd (Bw σ y) s (M6 (σ s) (Oy cs off (GG (opV σ y)))))) : OpS P nt bx base St0 w0 o σ K:=by
 have hvv : (opV σ y).isVal = true:=by cases h : opV σ y <;> rw [h] at hv <;> first | exact hv | cases hv
 rintro a w Q ⟨St,B,h,hb,hst,hz⟩
 obtain ⟨bs,B',hw,h2,hnb⟩:=Lw h y hvv
 rw [List.nil_append] at h2 hnb
 have hs3:=Xt hs hvv
 have hs2 : EM (Bw σ y s) = some cs:=by rw [hs3]; exact hs
 obtain ⟨g,T,bs',arr,q1,q2,q3,q4,q5,q6⟩:=JI h2 (Xs hax hvv) hs2
 have hagr:=htb _ _ ht
 have hcells:=hw.cells hv
 have e0:=Ta cs off dd.size
 rw [e0] at q4
 obtain ⟨us1,us2,b1,b2,eu,eb,r1,r2⟩:=AC.app q4
 obtain ⟨us3,us4,b3,b4,eu',eb',r3,r4⟩:=AC.app r2
 have l1 : us1.length = off:=by rw [r1.length,List.length_take,Nat.min_eq_left (by omega)]
 have l3 : us3.length = dd.size:=by rw [r3.length,List.length_take,List.length_drop,Nat.min_eq_left (by omega)]
 have lv : (a.eval y).cells.toList.length = dd.size:=by rw [hcells.length,hn]
 have la : arr.toList.length = cs.length:=by rw [eu,eu',List.length_append,List.length_append,l1,l3,r4.length,List.length_drop]; omega
 have hst0:=run_storeCells_at (P:=P) g off T (a.eval y).cells.toList 0 arr w q3 (by rw [lv]; rw [Array.length_toList] at la; omega) ((AC.rdL _ hcells).oneCell)
 have hnew : arr.toList.take (off + 0) ++ (a.eval y).cells.toList ++ arr.toList.drop (off + 0 + (a.eval y).cells.toList.length) = us1 ++ ((a.eval y).cells.toList ++ us4):=by
  rw [lv,Nat.add_zero,eu,eu',List.append_assoc]
  congr 1
  ·rw [<- l1]; simp
  ·congr 1
   rw [<- List.append_assoc,List.drop_append_of_le_length (by simp [l1,l3]),List.drop_of_length_le (by simp [l1,l3])]
   simp
 rw [hnew] at hst0
 have hr : (execOp a.eval o).run P w = .ok .skip (w.setRow g (us1 ++ ((a.eval y).cells.toList ++ us4)).toArray):=by
  have hsz : (a.eval y).cells.size = dd.size:=by rw [<- lv,Array.length_toList]
  simp [execOp,hop,q1,Instr.storeAt,Instr.sureAddr,storeVar,hagr.sizeOf,hsz,hst0]
 have hkeep : ∀ k,k ≠ g -> (w.setRow g (us1 ++ ((a.eval y).cells.toList ++ us4)).toArray).heap[k]? = w.heap[k]?:=fun k hk => setRow_other w g k _ hk
 have hsize : (w.setRow g (us1 ++ ((a.eval y).cells.toList ++ us4)).toArray).heap.size = w.heap.size:=by simp [World.setRow]
 have hext : Ext St w (w.setRow g (us1 ++ ((a.eval y).cells.toList ++ us4)).toArray):=fun b o' hs' => World.cell?_of_block (hkeep b (fun e => q6 o' (e ▸ hs')))
 have hnd : (g :: (b1 ++ (b3 ++ b4))).Nodup:=by have:=h2.nodup s; rw [q5,eb,eb'] at this; exact this
 have hnd2:=List.nodup_cons.1 hnd
 have hnd3:=List.nodup_append.1 hnd2.2
 have hnd4:=List.nodup_append.1 hnd3.2.1
 have hgb : ∀ k ∈ bs,k ≠ g:=fun k hk e => h2.hapart s g (by rw [q5]; simp) (e ▸ hk)
 have hBs : ∀ k,k ∈ b1 ∨ k ∈ b4 -> k ∈ B' s:=by
  intro k hk
  rw [q5,eb,eb']
  simp only [List.mem_cons,List.mem_append]
  rcases hk with hk | hk
  ·exact .inr (.inl hk)
  ·exact .inr (.inr (.inr hk))
 have hg1 : ∀ k ∈ b1,k ≠ g:=fun k hk e => hnd2.1 (e ▸ List.mem_append_left _ hk)
 have hg4 : ∀ k ∈ b4,k ≠ g:=fun k hk e => hnd2.1 (e ▸ List.mem_append_right _ (List.mem_append_right _ hk))
 have m1:=AC.mono (St':=St) (fun _ _ h => h) hext _ r1 (fun k hk => ⟨hkeep k (hg1 k hk),fun _ => Iff.rfl⟩)
 have m4:=AC.mono (St':=St) (fun _ _ h => h) hext _ r4 (fun k hk => ⟨hkeep k (hg4 k hk),fun _ => Iff.rfl⟩)
 have mv:=AC.mono (St':=St) (fun _ _ h => h) hext _ hcells (fun k hk => ⟨hkeep k (hgb k hk),fun _ => Iff.rfl⟩)
 have hbox : A3 P (w.setRow g (us1 ++ ((a.eval y).cells.toList ++ us4)).toArray) St (tm a) (M6 (σ s) (Oy cs off (GG (opV σ y)))) (tm a s) (g :: (b1 ++ (bs ++ b4))):=by
  refine Pk hs (by have:=h2.slot s; rw [hs3] at this; exact this) q2 q3 (setRow_heap w g arr _ T _ q3) ?_ q6 (Od (by rw [hn]; exact hl))
  unfold Oy
  rw [hn,List.append_assoc]
  exact m1.join (mv.join m4)
 have hda : ∀ k ∈ bs,¬ (k ∈ b1 ∨ k ∈ b4):=fun k hk hm => h2.hapart s k (hBs k hm) hk
 refine YB hr ⟨_,hk,St,upd B' s (g :: (b1 ++ (bs ++ b4))),?_,?_,hst,by rw [hsize]; exact hz⟩
 ·rw [ho]
  refine h2.ku hs2 (O6 _ _) q5 q6 hkeep hsize hbox ?_ ?_ List.nodup_nil (by simp) (by simp)
  ·refine List.nodup_cons.2 ⟨?_,List.nodup_append.2 ⟨hnd3.1,List.nodup_append.2 ⟨hnb,hnd4.2.1,fun x hx y hy e => hda x hx (.inr (e ▸ hy))⟩,?_⟩⟩
   ·intro hm
    rcases List.mem_append.1 hm with hm | hm
    ·exact hg1 g hm rfl
    ·rcases List.mem_append.1 hm with hm | hm
     ·exact hgb g hm rfl
     ·exact hg4 g hm rfl
   ·intro x hx y hy e
    rcases List.mem_append.1 hy with hy | hy
    ·exact hda y hy (.inl (e ▸ hx))
    ·exact hnd3.2.2 x hx y (List.mem_append_right _ hy) e
  ·intro k hk
   rcases List.mem_cons.1 hk with rfl | hk
   ·exact .inl (by rw [q5]; simp)
   ·rcases List.mem_append.1 hk with hk | hk
    ·exact .inl (hBs k (.inl hk))
    ·rcases List.mem_append.1 hk with hk | hk
     ·exact .inr hk
     ·exact .inl (hBs k (.inr hk))
 ·have hgb : ¬ base g:=(h2.range s g (by rw [q5]; simp)).1
  exact hb.trans ⟨rfl,rfl,rfl,by rw [hsize]; exact Nat.le_refl _,fun k hk => hkeep k (fun e => hgb (e ▸ hk))⟩
def Sj : TyD -> List V
 | .sc z => [z]
 | .st _ z _ => z
 | .sl e _ _ _ => [.own e 0 []]
theorem Vd (e : TypeId) : Ow P w St (.own e 0 []) (.slice none 0 0) []:=⟨Nat.zero_le _,[],[],World.ownsRow_nil _ _ _ _,⟨rfl,rfl⟩,rfl,(fun g hg => by cases hg),fun _ => rfl⟩
theorem Xz {t : TypeId} {d : TyD} (h : Agr P t d) : ∃ zv,(zeroValue t).run P w = .ok zv w ∧ ∀ w St,AC P w St (Sj d) zv.cells.toList []:=by
 cases d with
 | sc z =>
  obtain ⟨i,zv,d,hi,_,hz,hzl,_⟩:=h
  refine ⟨zv,by simp [zeroValue,typeInfo,hi,hz],fun w St => ?_⟩
  have h1:=hzl w St
  have h2:=(AC.rdL _ h1).oneCell zv (by simp)
  have : zv.cells = #[zv]:=by cases zv <;> first | rfl | cases h2
  rw [this]; exact h1
 | st n z f => obtain ⟨i,arr,fs,hi,_,hz,hzl,_⟩:=h; exact ⟨.agg arr,by simp [zeroValue,typeInfo,hi,hz],fun w St => hzl w St⟩
 | sl e es eb ez =>
  obtain ⟨i,j,zv,hi,_,hz,_⟩:=h
  exact ⟨.slice none 0 0,by simp [zeroValue,typeInfo,hi,hz],fun w St => ⟨.slice none 0 0,[],[],[],rfl,rfl,rfl,Vd e,rfl,rfl⟩⟩
theorem alloc_heap_new (w : World) (ob : Obj) : (w.alloc ob).heap[w.heap.size]? = some ob:=heap_alloc_new w ob
theorem HSim.alloc (h : HSim P nt bx base St B hand σ a w) (hz : ∀ b,base b -> b < w.heap.size) (ob : Obj) (hst : ∀ b o,b < w.heap.size -> (St' b o ↔ St b o)) (hst' : ∀ b o,St' b o -> b <= w.heap.size) :
  HSim P nt bx base St' B (hand ++ [w.heap.size]) σ a (w.alloc ob):=by
 have h1:=h.grow (w':=w.alloc ob) (Qu w ob) hst (fun b o hs => by rw [World.size_alloc]; exact Nat.lt_succ_of_le (hst' b o hs))
 refine h1.fresh (by simp) ?_ ?_ ?_
 ·intro g hg
  simp only [List.mem_singleton] at hg
  subst hg
  exact ⟨X2 hz,by simp⟩
 ·intro s g hg hm
  simp only [List.mem_singleton] at hm
  have:=(h.range s g hg).2
  omega
 ·intro g hg hm
  simp only [List.mem_singleton] at hm
  have:=(h.hrange g hg).2
  omega
theorem Vm {tb : Tb} (htb : KD P tb) {t : TypeId} {dd : TyD} {d : Nat} (hop : o.op = .alloc t) (ht : tb t = some dd) (ho : o.dst = some d) (hd : d < nt) (hx : d ∈ bx) (hd0 : OF ∈ bx -> d ≠ 0) (hold : EM (σ d) = none) (hk : K (upd σ d (.box (Sj dd)))) : OpS P nt bx base St0 w0 o σ K:=by
 rintro a w Q ⟨St,B,h,hb,hst,hz⟩
 obtain ⟨zv,hzr,hzl⟩:=Xz (w:=w) (htb _ _ ht)
 have hr : (execOp a.eval o).run P w = .ok (.value (.pointer (some ⟨w.heap.size,0,none⟩))) (w.alloc (.cells zv.cells t)):=by
  simp [execOp,hop,Instr.alloc,hzr,newVar,newRow]
 have h1:=h.alloc (St':=St) hz (.cells zv.cells t) (fun _ _ _ => Iff.rfl) (fun b o hs => Nat.le_of_lt (h.st b o hs))
 refine Ie hr ⟨_,hk,St,upd B d [w.heap.size],?_,hb.alloc hz _,hst,Nh hz _⟩
 rw [ho]
 refine h1.Q0 hd hx hd0 hold (c:=.box (Sj dd)) ⟨w.heap.size,t,[],zv.cells,rfl,alloc_heap_new w _,hzl _ _,rfl,fun o hs => absurd (h.st _ o hs) (by omega)⟩ (by simp) (by simp) rfl
theorem eS (h : HSim P nt bx base St B hand σ a w) {c : V} {v : Value} {bs : List Nat} (hw : Ow P w St c v bs) (hb : ∀ g ∈ bs,g ∈ hand) (ob : Obj) (hst : ∀ b o,b < w.heap.size -> (St' b o ↔ St b o)) : Ow P (w.alloc ob) St' c v bs :=
 Ow.mono (fun b o hs => (hst b o (h.st b o hs)).2 hs) (fun b o hs => (Qu w ob).cell (p:=⟨b,o,none⟩) (h.st b o hs)) c hw (fun g hg => ⟨(Qu w ob).block g (h.hrange g (hb g hg)).2,fun o => hst g o (h.hrange g (hb g hg)).2⟩)
theorem Oe (h : HSim P nt bx base St B hand σ a w) {cs : List V} {us : List Value} {bs : List Nat} (hw : AC P w St cs us bs) (hb : ∀ g ∈ bs,g ∈ hand) (ob : Obj) (hst : ∀ b o,b < w.heap.size -> (St' b o ↔ St b o)) : AC P (w.alloc ob) St' cs us bs :=
 AC.mono (fun b o hs => (hst b o (h.st b o hs)).2 hs) (fun b o hs => (Qu w ob).cell (p:=⟨b,o,none⟩) (h.st b o hs)) cs hw (fun g hg => ⟨(Qu w ob).block g (h.hrange g (hb g hg)).2,fun o => hst g o (h.hrange g (hb g hg)).2⟩)
theorem Hj {c : V} (h : c.isArg = true) : c.isVal = true:=by cases c <;> first | exact h | cases h
theorem ZE {t : TypeId} {x : Operand} {d : Nat} (hop : o.op = .box t x) (ho : o.dst = some d) (hd : d < nt) (hx : d ∈ bx) (hd0 : OF ∈ bx -> d ≠ 0) (hv : (opV σ x).isArg = true) (hold : EM (Bw σ x d) = none) (hk : K (upd (Bw σ x) d (.box (GG (opV σ x))))) : OpS P nt bx base St0 w0 o σ K:=by
 rintro a w Q ⟨St,B,h,hb,hst,hz⟩
 obtain ⟨bs,B',hw,h2,hnb⟩:=Lw h x (Hj hv)
 rw [List.nil_append] at h2 hnb
 have hr : (execOp a.eval o).run P w = .ok (.value (.pointer (some ⟨w.heap.size,0,none⟩))) (w.alloc (.cells (a.eval x).cells t)):=by
  simp [execOp,hop,Instr.box,newVar,newRow]
 have h1:=h2.alloc (St':=St) hz (.cells (a.eval x).cells t) (fun _ _ _ => Iff.rfl) (fun b o hs => Nat.le_of_lt (h.st b o hs))
 have hrow:=Oe (St':=St) h2 (hw.cells hv) (fun _ h => h) (.cells (a.eval x).cells t) (fun _ _ _ => Iff.rfl)
 have hgn : w.heap.size ∉ bs:=fun hm => by have:=(h2.hrange _ hm).2; omega
 refine Ie hr ⟨_,hk,St,upd B' d (w.heap.size :: bs),?_,hb.alloc hz _,hst,Nh hz _⟩
 rw [ho]
 refine h1.Q0 hd hx hd0 hold (c:=.box (GG (opV σ x))) ⟨w.heap.size,t,bs,_,rfl,alloc_heap_new w _,hrow,rfl,fun o hs => absurd (h.st _ o hs) (by omega)⟩ (List.nodup_cons.2 ⟨hgn,hnb⟩) (by
  intro g hg
  rcases List.mem_cons.1 hg with rfl | hg
  ·simp
  ·exact List.mem_append_left _ hg) rfl
def KQ (place : Nat -> Option (Nat × Nat)) : List (Nat × Operand) -> PS -> List V -> Option (PS × List V)
 | [],σ,cs => some (σ,cs)
 | (i,x) :: r,σ,cs => match place i with
  | some (off,sz) => if (opV σ x).isArg = true ∧ (GG (opV σ x)).length = sz ∧ off + sz <= cs.length then KQ place r (Bw σ x) (Oy cs off (GG (opV σ x))) else none
  | none => none
theorem Xk (new : List Value) : ∀ (k off : Nat) (arr : Array Value),off + k + new.length <= arr.size ->
  (new.zipIdx k).foldl (fun cs (c,j) => cs.setIfInBounds (off + j) c) arr = (arr.toList.take (off + k) ++ new ++ arr.toList.drop (off + k + new.length)).toArray:=by
 induction new with
 | nil => intro k off arr _; simp
 | cons u new ih =>
  intro k off arr hl
  simp only [List.length_cons] at hl
  rw [List.zipIdx_cons,List.foldl_cons,ih (k + 1) off _ (by simp; omega)]
  have hp : off + k < arr.toList.length:=by rw [Array.length_toList]; omega
  have e1 : (arr.setIfInBounds (off + k) u).toList = arr.toList.set (off + k) u:=by simp
  have e2 : (arr.toList.set (off + k) u).take (off + (k + 1)) = arr.toList.take (off + k) ++ [u]:=by
   rw [show off + (k + 1) = off + k + 1 by omega,List.take_succ_eq_append_getElem (by rw [List.length_set]; exact hp),List.take_set_of_le (by omega)]
   simp
  have e3 : (arr.toList.set (off + k) u).drop (off + (k + 1) + new.length) = arr.toList.drop (off + k + (u :: new).length):=by
   rw [List.drop_set_of_lt (by omega),List.length_cons]
   congr 1; omega
  simp only
  rw [e1,e2,e3]
  simp
theorem RM (place : Nat -> Option (Nat × Nat)) : ∀ (parts : List (Nat × Operand)) (σ σ' : PS) (B : Nat -> List Nat) (hand : List Nat) (cs cs' : List V) (arr : Array Value) (bs : List Nat),HSim P nt bx base St B hand σ a w -> AC P w St cs arr.toList bs -> bs.Nodup -> (∀ g ∈ bs,g ∈ hand) -> KQ place parts σ cs = some (σ',cs') ->
  ∃ B' hand' arr' bs',Instr.fill place arr (parts.map fun p => (p.1,a.eval p.2)) = some arr' ∧ HSim P nt bx base St B' hand' σ' a w ∧ AC P w St cs' arr'.toList bs' ∧ bs'.Nodup ∧ ∀ g ∈ bs',g ∈ hand'
 | [],σ,σ',B,hand,cs,cs',arr,bs,h,hr,hn,hs,e => by
  simp only [KQ,Option.some.injEq,Prod.mk.injEq] at e
  obtain ⟨rfl,rfl⟩:=e
  exact ⟨B,hand,arr,bs,rfl,h,hr,hn,hs⟩
 | (i,x) :: parts,σ,σ',B,hand,cs,cs',arr,bs,h,hr,hn,hs,e => by
  simp only [KQ] at e
  cases hp : place i with
  | none => rw [hp] at e; cases e
  | some q =>
   obtain ⟨off,sz⟩:=q
   rw [hp] at e
   simp only at e
   split at e
   ·rename_i hc
    obtain ⟨hv,hl,hlen⟩:=hc
    obtain ⟨bv,B',hw,h2,hnb⟩:=Lw h x (Hj hv)
    have hcells:=hw.cells hv
    have e0:=Ta cs off sz
    rw [e0] at hr
    obtain ⟨us1,us2,b1,b2,eu,eb,r1,r2⟩:=AC.app hr
    obtain ⟨us3,us4,b3,b4,eu',eb',r3,r4⟩:=AC.app r2
    have l1 : us1.length = off:=by rw [r1.length,List.length_take,Nat.min_eq_left (by omega)]
    have l3 : us3.length = sz:=by rw [r3.length,List.length_take,List.length_drop,Nat.min_eq_left (by omega)]
    have lv : (a.eval x).cells.toList.length = sz:=by rw [hcells.length,hl]
    have la : arr.toList.length = cs.length:=by rw [eu,eu',List.length_append,List.length_append,l1,l3,r4.length,List.length_drop]; omega
    rw [Array.length_toList] at la
    have hset:=Xk (a.eval x).cells.toList 0 off arr (by omega)
    have hnew : arr.toList.take (off + 0) ++ (a.eval x).cells.toList ++ arr.toList.drop (off + 0 + (a.eval x).cells.toList.length) = us1 ++ ((a.eval x).cells.toList ++ us4):=by
     rw [lv,Nat.add_zero,eu,eu',List.append_assoc]
     congr 1
     ·rw [<- l1]; simp
     ·congr 1
      rw [<- List.append_assoc,List.drop_append_of_le_length (by simp [l1,l3]),List.drop_of_length_le (by simp [l1,l3])]
      simp
    rw [hnew] at hset
    have hrow : AC P w St (Oy cs off (GG (opV σ x))) (us1 ++ ((a.eval x).cells.toList ++ us4)) (b1 ++ (bv ++ b4)):=by
     unfold Oy
     rw [hl,List.append_assoc]
     exact r1.join (hcells.join r4)
    rw [eb,eb'] at hn hs
    have n1:=List.nodup_append.1 hn
    have n2:=List.nodup_append.1 n1.2.1
    have hnb':=List.nodup_append.1 hnb
    have hsub1 : ∀ g ∈ b1,g ∈ hand:=fun g hg => hs g (List.mem_append_left _ hg)
    have hsub4 : ∀ g ∈ b4,g ∈ hand:=fun g hg => hs g (List.mem_append_right _ (List.mem_append_right _ hg))
    obtain ⟨B2,hand2,arr2,bs2,hf,h3,h4,h5,h6⟩:=RM place parts (Bw σ x) σ' B' (hand ++ bv) (Oy cs off (GG (opV σ x))) cs' (us1 ++ ((a.eval x).cells.toList ++ us4)).toArray (b1 ++ (bv ++ b4)) h2 hrow
     (List.nodup_append.2 ⟨n1.1,List.nodup_append.2 ⟨hnb'.2.1,n2.2.1,fun x hx y hy e => hnb'.2.2 y (hsub4 y hy) x hx e.symm⟩,fun x hx y hy e => by
      rcases List.mem_append.1 hy with hy | hy
      ·exact hnb'.2.2 x (hsub1 x hx) y hy e
      ·exact n1.2.2 x hx y (List.mem_append_right _ hy) e⟩)
     (fun g hg => by
      rcases List.mem_append.1 hg with hg | hg
      ·exact List.mem_append_left _ (hsub1 g hg)
      ·rcases List.mem_append.1 hg with hg | hg
       ·exact List.mem_append_right _ hg
       ·exact List.mem_append_left _ (hsub4 g hg)) e
    refine ⟨B2,hand2,arr2,bs2,?_,h3,h4,h5,h6⟩
    simp only [List.map_cons,Instr.fill,hp]
    have hsz : (a.eval x).cells.size = sz:=by rw [<- lv,Array.length_toList]
    rw [if_neg (by simp [hsz]; omega)]
    have hz : (Array.foldl (fun cs (x : Value × Nat) => cs.setIfInBounds (off + x.2) x.1) arr (a.eval x).cells.zipIdx) = (us1 ++ ((a.eval x).cells.toList ++ us4)).toArray:=by
     rw [<- Array.foldl_toList,Array.toList_zipIdx]
     exact hset
    rw [<- hf]
    congr 1
   ·cases e
end
end Go.Proofs.YtkclaipnejgloaaGreatDoor
namespace Go.Proofs.YtkclaipnejgloaaGreatDoor
open Go.RowKit
set_option linter.unusedVariables false
section
variable {P : Program} {nt : Nat} {base : Bs} {bx : List Nat} {St St' St0 : Nat -> Nat -> Prop} {B : Nat -> List Nat} {hand : List Nat} {σ σ' : PS} {a : Act} {w w' w0 : World} {K : PS -> Prop} {Q : Exit -> Act -> World -> Prop} {o : Oper}
theorem QJ (parts : Array (Nat × Operand)) (f : Operand -> Value) : (parts.map fun (i,x) => (i,f x)).toList = parts.toList.map fun p => (p.1,f p.2):=by simp
theorem RX (fs : List Field) (hp : ∀ f ∈ fs,0 < csz P f.type) : (fs.mapM fun f => do pure (f.offset,<- Go.sizeOf f.type) : Sem (List (Nat × Nat))).run P w = .ok (fs.map fun f => (f.offset,csz P f.type)) w:=by
 induction fs with
 | nil => rfl
 | cons f fs ih =>
  have h1 : (Go.sizeOf f.type).run P w = .ok (csz P f.type) w:=by
   have:=hp f (by simp)
   unfold csz at *
   cases hi : P.info? f.type with
   | none => rw [hi] at this; simp at this
   | some i => simp [Go.sizeOf,typeInfo,hi]
  simp only [List.mapM_cons,Sem.run_bind,h1,Result.andThen_ok,Sem.run_pure,ih (fun f hf => hp f (by simp [hf]))]
  rfl
theorem Vn {tb : Tb} (htb : KD P tb) {t : TypeId} {n : Nat} {z : List V} {fs : List (Nat × Nat)} {parts : Array (Nat × Operand)} {d : Nat} {cs : List V} (hop : o.op = .build t parts) (ht : tb t = some (.st n z fs))
  (hf : KQ (fun i => fs[i]?) parts.toList σ z = some (σ',cs)) (ho : o.dst = some d) (hd : d < nt) (hx : d ∉ bx) (hk : K (upd σ' d (.agg cs))) : OpS P nt bx base St0 w0 o σ K:=by
 rintro a w Q ⟨St,B,h,hb,hst,hz⟩
 obtain ⟨i,arr,gs,hi,_,hzv,hzl,hu,hfs,hpos⟩:=htb _ _ ht
 obtain ⟨B',hand',arr',bs',h1,h2,h3,h4,h5⟩:=RM (fun i => fs[i]?) parts.toList σ σ' B [] z cs arr [] h (hzl w St) List.nodup_nil (by simp) hf
 have hpl : (gs.mapM fun f => do pure (f.offset,<- Go.sizeOf f.type) : Sem (Array (Nat × Nat))).run P w = .ok fs.toArray w:=by
  have:=RX (P:=P) (w:=w) gs.toList (fun f hf => by
   have:=hpos (f.offset,csz P f.type) (by rw [<- hfs]; exact List.mem_map_of_mem hf)
   exact this)
  rw [hfs] at this
  rw [Array.mapM_eq_mapM_toList,Sem.run_map,this]
  rfl
 have hr : (execOp a.eval o).run P w = .ok (.value (.agg arr')) w:=by
  have hzr : (zeroValue t).run P w = .ok (.agg arr) w:=by simp [zeroValue,typeInfo,hi,hzv]
  have hfill : Instr.fill (fun x => fs.toArray[x]?) (Value.agg arr).cells (parts.map fun (i,x) => (i,a.eval x)).toList = some arr':=by
   rw [QJ]
   have : (fun (x : Nat) => fs.toArray[x]?) = fun (i : Nat) => fs[i]?:=by funext x; simp
   rw [this]; exact h1
  simp only [execOp,hop,Instr.build,Sem.run_bind,hzr,Result.andThen_ok,run_underlying hu,hpl,hfill,Sem.run_pure]
 have hv : Ow P w St (.agg cs) (.agg arr') bs':=⟨arr'.toList,by simp,h3⟩
 refine Ie hr ⟨_,hk,St,upd B' d bs',?_,hb,hst,hz⟩
 rw [ho]
 exact h2.put hd hx hv.slot h4 h5 hv.B9.1 hv.MF
def Oz (ez : List V) (es n : Nat) : List V:=(List.range (n * es)).map fun i => ez.getD (i % es) .undef
theorem QR : ∀ (cs : List V) (us : List Value),cs.length = us.length -> (∀ (j : Nat) (c : V) (u : Value),cs[j]? = some c -> us[j]? = some u -> c.Fq = true ∧ Ow P w St c u []) -> AC P w St cs us []
 | [],us,hl,_ => ⟨List.eq_nil_of_length_eq_zero hl.symm,rfl⟩
 | c :: cs,[],hl,_ => by simp at hl
 | c :: cs,u :: us,hl,h => by
  obtain ⟨h1,h2⟩:=h 0 c u rfl rfl
  exact ⟨u,us,[],[],rfl,rfl,h1,h2,QR cs us (by simpa using hl) (fun j x y hx hy => h (j + 1) x y (by simpa using hx) (by simpa using hy))⟩
theorem QS : ∀ {cs : List V} {us : List Value},AC P w St cs us [] -> ∀ (j : Nat) (c : V) (u : Value),cs[j]? = some c -> us[j]? = some u -> c.Fq = true ∧ Ow P w St c u []
 | [],_,_,j,c,u,hc,_ => by simp at hc
 | d :: cs,_,⟨x,us',b1,b2,e1,e2,hc,h1,h2⟩,j,c,u,ec,eu => by
  have hb : b1 = [] ∧ b2 = []:=by simpa using e2.symm
  obtain ⟨rfl,rfl⟩:=hb
  cases j with
  | zero =>
   rw [e1] at eu
   simp only [List.getElem?_cons_zero,Option.some.injEq] at ec eu
   subst ec eu
   exact ⟨hc,h1⟩
  | succ j => rw [e1] at eu; exact QS h2 j c u (by simpa using ec) (by simpa using eu)
theorem Sk {ez : List V} {us : Array Value} (hz : AC P w St ez us.toList []) {es : Nat} (hes : 0 < es) (hl : ez.length = es) (n : Nat) : AC P w St (Oz ez es n) ((Array.range (n * es)).map (us[· % us.size]!)).toList []:=by
 have hlu : us.size = es:=by rw [<- hl,<- hz.length,Array.length_toList]
 refine QR _ _ (by simp [Oz]) (fun j c u hc hu => ?_)
 have hj : j < n * es:=by
  rcases Nat.lt_or_ge j (n * es) with h | h
  ·exact h
  ·rw [List.getElem?_eq_none (by simp [Oz]; omega)] at hc; cases hc
 have hm : j % es < es:=Nat.mod_lt _ hes
 have e1 : ez[j % es]? = some c:=by
  simp only [Oz,List.getElem?_map,List.getElem?_range hj,Option.map_some,Option.some.injEq] at hc
  rw [<- hc,List.getElem?_eq_getElem (by omega),List.getD_eq_getElem?_getD,List.getElem?_eq_getElem (by omega)]
  rfl
 have e2 : us.toList[j % es]? = some u:=by
  simp only [Array.toList_map,Array.toList_range,List.getElem?_map,List.getElem?_range hj,Option.map_some,Option.some.injEq] at hu
  rw [<- hu,hlu]
  simp [hlu,hm]
 exact QS hz (j % es) c u e1 e2
theorem Sz {t e : TypeId} {es eb : Nat} {ez : List V} (h : Agr P t (.sl e es eb ez)) : csz P e = es:=by
 obtain ⟨i,j,zv,_,_,_,_,hj,_,hes,_⟩:=h
 simp [csz,hj,hes]
theorem Pi {e : TypeId} {es n d : Nat} {cs : List V} {arr : Array Value} {bs : List Nat} (hcsz : csz P e = es) (hes0 : 0 < es) (h2 : HSim P nt bx base St B hand σ a w) (h3 : AC P w St cs arr.toList bs) (h4 : bs.Nodup) (h5 : ∀ g ∈ bs,g ∈ hand)
  (hb : BelowK base.K w0 w) (hst : ∀ b o,base b -> (St b o ↔ St0 b o)) (hz : ∀ b,base b -> b < w.heap.size) (hcs : cs.length = n * es) (hnl : n <= lim) (hd : d < nt) (hx : d ∉ bx) :
  Rel P nt bx base St0 w0 (upd σ d (.own e n cs)) (a.put (some d) (.slice (some ⟨w.heap.size,0,none⟩) n n)) (w.alloc (.cells arr e)):=by
 have hsz : arr.size = n * es:=by rw [<- Array.length_toList,h3.length,hcs]
 have hm : n <= maxLen:=by unfold maxLen; unfold lim at hnl; omega
 have hst1 : ∀ b o,b < w.heap.size -> ((St b o ∨ (b = w.heap.size ∧ o < n * es)) ↔ St b o):=fun b o hlt => ⟨fun h => h.elim id (fun h => by omega),.inl⟩
 have h6:=h2.alloc (St':=fun b o => St b o ∨ (b = w.heap.size ∧ o < n * es)) hz (.cells arr e) hst1 (fun b o hs => by
  rcases hs with hs | hs
  ·exact Nat.le_of_lt (h2.st b o hs)
  ·omega)
 have h7:=Oe (St':=fun b o => St b o ∨ (b = w.heap.size ∧ o < n * es)) h2 h3 h5 (.cells arr e) hst1
 have hgn : w.heap.size ∉ bs:=fun hm => by have:=(h2.hrange _ (h5 _ hm)).2; omega
 have hv : Ow P (w.alloc (.cells arr e)) (fun b o => St b o ∨ (b = w.heap.size ∧ o < n * es)) (.own e n cs) (.slice (some ⟨w.heap.size,0,none⟩) n n) (w.heap.size :: bs):=by
  refine ⟨hnl,arr.toList,bs,?_,h7,rfl,?_,?_⟩
  ·rw [hcsz]; exact World.ownsRow_lit w arr n (Nat.zero_le _) hm hsz
  ·intro g hg o'
   simp only [Value.ownBlock,Option.some.injEq] at hg
   subst hg
   rw [hcsz]
   exact ⟨fun h' => h'.elim (fun h' => absurd (h2.st _ _ h') (by omega)) (·.2),fun h' => .inr ⟨rfl,h'⟩⟩
  ·intro hn0; subst hn0; exact List.eq_nil_of_length_eq_zero (by simpa using hcs)
 refine ⟨(fun b o => St b o ∨ (b = w.heap.size ∧ o < n * es)),upd B d (w.heap.size :: bs),?_,hb.alloc hz _,?_,Nh hz _⟩
 ·exact h6.put hd hx hv.slot (List.nodup_cons.2 ⟨hgn,h4⟩) (by
   intro g hg
   rcases List.mem_cons.1 hg with rfl | hg
   ·simp
   ·exact List.mem_append_left _ (h5 g hg)) hv.B9.1 hv.MF
 ·intro b o' hlt
  rw [<- hst b o' hlt]
  exact hst1 b o' (hz b hlt)
theorem OS {tb : Tb} (htb : KD P tb) {t e : TypeId} {es eb n : Nat} {ez : List V} {parts : Array (Nat × Operand)} {d : Nat} {cs : List V} (hop : o.op = .buildSlice t n parts) (ht : tb t = some (.sl e es eb ez))
  (hn : n * es <= 16777216) (hf : KQ (fun i => some (i * es,es)) parts.toList σ (Oz ez es n) = some (σ',cs)) (hcs : cs.length = n * es) (ho : o.dst = some d) (hd : d < nt) (hx : d ∉ bx) (hk : K (upd σ' d (.own e n cs))) : OpS P nt bx base St0 w0 o σ K:=by
 rintro a w Q ⟨St,B,h,hb,hst,hz⟩
 have hcsz:=Sz (htb _ _ ht)
 obtain ⟨i,j,zv,hi,_,_,hu,hj,hjz,hes,heb,hzl,hlz,hes0,_⟩:=htb _ _ ht
 have hrow:=Sk (hzl w St) hes0 hlz n
 obtain ⟨B',hand',arr',bs',h1,h2,h3,h4,h5⟩:=RM (fun i => some (i * es,es)) parts.toList σ σ' B [] (Oz ez es n) cs ((Array.range (n * es)).map (zv.cells[· % zv.cells.size]!)) [] h hrow List.nodup_nil (by simp) hf
 have hr : (execOp a.eval o).run P w = .ok (.value (.slice (some ⟨w.heap.size,0,none⟩) n n)) (w.alloc (.cells arr' e)):=by
  have hsz : (Go.sizeOf e).run P w = .ok es w:=by simp [Go.sizeOf,typeInfo,hj,hes]
  have hzr : (zeroValue e).run P w = .ok zv w:=by simp [zeroValue,typeInfo,hj,hjz]
  have hgt : ¬ (n * es > 2 ^ 24):=by omega
  have hmp : (parts.map fun (i,x) => (i,a.eval x)).toList = parts.toList.map fun p => (p.1,a.eval p.2):=QJ _ _
  by_cases h0 : n * es = 0
  ·have e1 : ∀ f : Nat -> Value,(Array.range (n * es)).map f = #[]:=by intro f; rw [h0]; simp
   rw [e1] at h1
   simp only [execOp,hop,Instr.buildSlice,Sem.run_bind,Result.andThen_ok,run_underlying hu,hsz,hgt,if_false,if_pos h0,e1,hmp,h1,Sem.run_pure,newRow,run_newObj]
   rfl
  ·simp only [execOp,hop,Instr.buildSlice,Sem.run_bind,Result.andThen_ok,run_underlying hu,hsz,hgt,if_false,if_neg h0,hzr,hmp,h1,Sem.run_pure,newRow,run_newObj]
   rfl
 refine Ie hr ⟨_,hk,?_⟩
 rw [ho]
 exact Pi hcsz hes0 h2 h3 h4 h5 hb hst hz hcs (by unfold lim; have : n <= n * es:=Nat.le_mul_of_pos_right _ hes0; omega) hd hx
theorem W1 {tb : Tb} (htb : KD P tb) {t e : TypeId} {es eb : Nat} {ez : List V} {x y : Operand} {d n : Nat} {k k' : IntKind} (hop : o.op = .makeSlice t x y) (ht : tb t = some (.sl e es eb ez)) (h1 : opV σ x = .int k n) (h2 : opV σ y = .int k' n) (hn : n <= lim)
  (ho : o.dst = some d) (hd : d < nt) (hx : d ∉ bx) (hk : K (upd σ d (.own e n (Oz ez es n)))) : OpS P nt bx base St0 w0 o σ K:=by
 rintro a w Q ⟨St,B,h,hb,hst,hz⟩
 have hcsz:=Sz (htb _ _ ht)
 obtain ⟨i,j,zv,hi,_,_,hu,hj,hjz,hes,heb,hzl,hlz,hes0,heb0,heb1⟩:=htb _ _ ht
 have hrow:=Sk (hzl w St) hes0 hlz n
 have e1 : a.eval x = .int k n:=by obtain ⟨b,hx⟩:=Lp h x; rw [h1] at hx; exact EI hx
 have e2 : a.eval y = .int k' n:=by obtain ⟨b,hy⟩:=Lp h y; rw [h2] at hy; exact EI hy
 have hr : (execOp a.eval o).run P w = .ok (.value (.slice (some ⟨w.heap.size,0,none⟩) n n)) (w.alloc (.cells ((Array.range (n * es)).map (zv.cells[· % zv.cells.size]!)) e)):=by
  have hbig : (j.bytes : Int) * (n : Int) <= 281474976710656:=by
   rw [heb]
   have h3 : eb * n <= 128 * 1099511627776:=Nat.mul_le_mul heb1 hn
   have h4 : ((eb * n : Nat) : Int) = (eb : Int) * n:=by simp
   rw [<- h4]
   omega
  have h5:=run_make (P:=P) w t e j zv hu hj hjz k k' n n (by omega) (Int.le_refl _) hbig (by unfold lim at hn; omega)
  simp only [Int.toNat_natCast,hes] at h5
  simp only [execOp,hop,e1,e2,Sem.run_bind,h5,Result.andThen_ok,Sem.run_pure]
  rfl
 refine Ie hr ⟨_,hk,?_⟩
 rw [ho]
 exact Pi hcsz hes0 h hrow List.nodup_nil (by simp) hb hst hz (by simp [Oz]) hn hd hx
def T2 : V -> List V
 | .own _ _ ds => ds
 | .dat _ ds => ds.map dg1
 | .arg _ ds => ds.map dg1
 | .pin _ _ ds => ds.map dg1
 | _ => []
theorem YF {c : V} {v : Value} {bs : List Nat} {m es : Nat} {ds : List V} (h : Ow P w St c v bs) (hc : Kf c = some (m,ds)) (hl : ds.length = m * es) (hes : 0 < es) (hn : bs.Nodup) :
  ∃ us b2,JH w es v m us ∧ AC P w St (T2 c) us b2 ∧ b2.Nodup ∧ ∀ g ∈ b2,g ∈ bs:=by
 have key : ∀ us : List Value,Rd w St (.dat m ds) v -> us.length = ds.length -> (∀ b off A cp,v = .slice A m cp -> A = some ⟨b,off,none⟩ -> Cg w St b off ds -> ∀ (j : Nat) (u : Value),us[j]? = some u -> w.cell? ⟨b,off + j,none⟩ = some u) -> JH w es v m us:=by
  intro us hr hlu hcell
  obtain ⟨hm,A,cp,rfl,_,hrow,h0⟩:=hr
  refine ⟨A,cp,rfl,by unfold maxLen at hm; omega,by rw [hlu,hl],fun hp => ?_⟩
  obtain ⟨b,off,rfl,hrr⟩:=hrow hp
  exact ⟨b,off,rfl,hcell b off _ cp rfl rfl hrr⟩
 cases c with
 | own e n cs =>
  simp only [Kf,Option.some.injEq,Prod.mk.injEq] at hc
  obtain ⟨rfl,rfl⟩:=hc
  have hrd:=Ow.rd _ h rfl
  obtain ⟨hm,xs,bs',h1,h2,h3,h4,h5⟩:=h
  refine ⟨xs,bs',?_,h2,?_,?_⟩
  ·have hx:=JH.Lb h1
   obtain ⟨A,cp,e1,e2,e3,e4⟩:=hx
   exact ⟨A,cp,e1,e2,by rw [h2.length,hl],e4⟩
  ·rw [h3] at hn; exact (List.nodup_append.1 hn).2.1
  ·intro g hg; rw [h3]; exact List.mem_append_right _ hg
 | dat n cs =>
  simp only [Kf,Option.some.injEq,Prod.mk.injEq] at hc
  obtain ⟨rfl,rfl⟩:=hc
  obtain ⟨rfl,hr⟩:=h
  have hr':=hr
  obtain ⟨hm,A,cp,rfl,hcp,hrow,h0⟩:=hr
  rcases Nat.eq_zero_or_pos n with hz | hp
  ·have:=h0 hz
   subst this
   subst hz
   exact ⟨[],[],⟨A,cp,rfl,by omega,by simp,fun h => absurd h (by omega)⟩,⟨rfl,rfl⟩,List.nodup_nil,by simp⟩
  ·obtain ⟨b,off,rfl,hrr⟩:=hrow hp
   obtain ⟨us,h3,h4⟩:=hrr.list
   refine ⟨us,[],⟨_,cp,rfl,by unfold maxLen at hm; omega,by rw [h3.length,hl],fun _ => ⟨b,off,rfl,h4⟩⟩,AC.dm _ h3,List.nodup_nil,by simp⟩
 | arg n cs =>
  have hr : Rd w St (.dat m ds) v:=GU (P:=P) (t:=fun _ => .bool true) hc h.slot
  simp only [Kf,Option.some.injEq,Prod.mk.injEq] at hc
  obtain ⟨rfl,rfl⟩:=hc
  obtain ⟨rfl,_⟩:=h
  have hr':=hr
  obtain ⟨hm,A,cp,rfl,hcp,hrow,h0⟩:=hr
  rcases Nat.eq_zero_or_pos n with hz | hp
  ·have:=h0 hz
   subst this
   subst hz
   exact ⟨[],[],⟨A,cp,rfl,by omega,by simp,fun h => absurd h (by omega)⟩,⟨rfl,rfl⟩,List.nodup_nil,by simp⟩
  ·obtain ⟨b,off,rfl,hrr⟩:=hrow hp
   obtain ⟨us,h3,h4⟩:=hrr.list
   refine ⟨us,[],⟨_,cp,rfl,by unfold maxLen at hm; omega,by rw [h3.length,hl],fun _ => ⟨b,off,rfl,h4⟩⟩,AC.dm _ h3,List.nodup_nil,by simp⟩
 | pin u n cs =>
  have hr : Rd w St (.dat m ds) v:=GU (P:=P) (t:=fun _ => .bool true) hc h.slot
  simp only [Kf,Option.some.injEq,Prod.mk.injEq] at hc
  obtain ⟨rfl,rfl⟩:=hc
  obtain ⟨rfl,_⟩:=h
  have hr':=hr
  obtain ⟨hm,A,cp,rfl,hcp,hrow,h0⟩:=hr
  rcases Nat.eq_zero_or_pos n with hz | hp
  ·have:=h0 hz
   subst this
   subst hz
   exact ⟨[],[],⟨A,cp,rfl,by omega,by simp,fun h => absurd h (by omega)⟩,⟨rfl,rfl⟩,List.nodup_nil,by simp⟩
  ·obtain ⟨b,off,rfl,hrr⟩:=hrow hp
   obtain ⟨us,h3,h4⟩:=hrr.list
   refine ⟨us,[],⟨_,cp,rfl,by unfold maxLen at hm; omega,by rw [h3.length,hl],fun _ => ⟨b,off,rfl,h4⟩⟩,AC.dm _ h3,List.nodup_nil,by simp⟩
 | _ => cases hc
theorem Pf {tb : Tb} (htb : KD P tb) {t e : TypeId} {es eb : Nat} {ez : List V} {x y : Operand} {d n m : Nat} {cs ds : List V} (hop : o.op = .call { callee:=.builtin .append,args := #[x,y],argTypes := #[t,t] }) (ht : tb t = some (.sl e es eb ez))
  (h1 : opV σ x = .own e n cs) (h2 : Kf (opV (Bw σ x) y) = some (m,ds)) (hds : ds.length = m * es) (hlim : n + m <= lim) (ho : o.dst = some d) (hd : d < nt) (hx : d ∉ bx)
  (hk : K (upd (Bw (Bw σ x) y) d (.own e (n + m) (cs ++ T2 (opV (Bw σ x) y))))) : OpS P nt bx base St0 w0 o σ K:=by
 rintro a w Q ⟨St,B,h,hb,hst,hz⟩
 have hcsz:=Sz (htb _ _ ht)
 obtain ⟨i,j,zv,hi,_,_,hu,hj,hjz,hes,heb,hzl,hlz,hes0,heb0,heb1⟩:=htb _ _ ht
 obtain ⟨b1,B1,w1,q1,n1⟩:=Lw h x (by rw [h1]; rfl)
 rw [List.nil_append] at q1 n1
 have hyv : (opV (Bw σ x) y).isVal = true:=by cases hc : opV (Bw σ x) y <;> rw [hc] at h2 <;> first | rfl | cases h2
 obtain ⟨b2,B2,w2,q2,n2⟩:=Lw q1 y hyv
 rw [h1] at w1
 obtain ⟨hnl,xs,bs1,r1,r2,r3,r4,r5⟩:=w1
 rw [hcsz] at r1 r4
 have n12:=List.nodup_append.1 n2
 obtain ⟨us,b3,s1,s2,s3,s4⟩:=YF w2 h2 hds hes0 n12.2.1
 have hzs : zv.cells.size = es:=by rw [<- hlz,<- (hzl w St).length,Array.length_toList]
 have hbytes : (n + m) * eb <= 140737488355328:=Nat.le_trans (Nat.mul_le_mul hlim heb1) (by unfold lim; omega)
 obtain ⟨v',w',hrun,o1,o2,o3,o4⟩:=Xe (P:=P) w t o.type e zv es eb hu (by simp [hj,hjz,hes,heb]) hzs hes0 heb0 (a.eval x) n xs r1 (a.eval y) m us s1 ((AC.rdL _ s2).oneCell) hbytes
 have hr : (execOp a.eval o).run P w = .ok (.value v') w':=by
  simp only [execOp,hop,resolve,invoke,builtin,Sem.run_bind,Sem.run_pure,Result.andThen_ok,List.map_toArray,List.map_cons,List.map_nil,hrun]
 have hxb : ∀ g,(a.eval x).ownBlock = some g -> g ∈ b1:=fun g hg => by rw [r3,hg]; simp
 have hext : Ext St w w':=by
  intro b o' hs
  by_cases e1 : some b = (a.eval x).ownBlock
  ·exact o4 b e1.symm o' ((r4 b e1.symm o').1 hs)
  ·exact World.cell?_of_block (o2.block b (h.st b o' hs) e1)
 have hst1 : ∀ g,g < w.heap.size -> (∀ q,(a.eval x).ownBlock = some q -> g ≠ q) -> ∀ o',(St g o' ∨ (v'.ownBlock = some g ∧ o' < (n + m) * es)) ↔ St g o':=by
  intro g hg hq o'
  refine ⟨fun hh => hh.elim id (fun hh => ?_),.inl⟩
  rcases o3 with e1 | e1
  ·rw [hh.1] at e1; exact absurd rfl (hq g e1.symm)
  ·rw [hh.1] at e1; simp only [Option.some.injEq] at e1; omega
 have hheap : ∀ g,g < w.heap.size -> (∀ q,(a.eval x).ownBlock = some q -> g ≠ q) -> w'.heap[g]? = w.heap[g]?:=fun g hg hq => o2.block g hg (fun e1 => hq g e1.symm rfl)
 have h3:=q2.world (w':=w') (St':=fun b o' => St b o' ∨ (v'.ownBlock = some b ∧ o' < (n + m) * es)) (fun b o' hs => .inl hs) hext o2.size
  (fun s g hg => by
   have hlt:=(q2.range s g hg).2
   have hne : ∀ q,(a.eval x).ownBlock = some q -> g ≠ q:=fun q hq e1 => q2.hapart s g hg (List.mem_append_left _ (e1 ▸ hxb q hq))
   exact ⟨hheap g hlt hne,hst1 g hlt hne⟩)
  (fun b o' hs => by
   rcases hs with hs | hs
   ·exact Nat.lt_of_lt_of_le (h.st b o' hs) o2.size
   ·exact (o1.lt b hs.1).2)
 have hn1 : ((a.eval x).ownBlock.toList ++ bs1).Nodup:=by rw [<- r3]; exact n12.1
 have hn1':=List.nodup_append.1 hn1
 have hrng : ∀ g,g ∈ b1 ++ b2 -> g < w.heap.size:=fun g hg => (q2.hrange g hg).2
 have hbs1 : ∀ g ∈ bs1,g ∈ b1:=fun g hg => by rw [r3]; exact List.mem_append_right _ hg
 have hne1 : ∀ g ∈ bs1,∀ q,(a.eval x).ownBlock = some q -> g ≠ q:=fun g hg q hq e1 => hn1'.2.2 q (by rw [hq]; simp) g hg e1.symm
 have hne3 : ∀ g ∈ b3,∀ q,(a.eval x).ownBlock = some q -> g ≠ q:=fun g hg q hq e1 => n12.2.2 q (hxb q hq) g (s4 g hg) e1.symm
 have t1:=AC.mono (w':=w') (St':=fun b o' => St b o' ∨ (v'.ownBlock = some b ∧ o' < (n + m) * es)) (fun b o' hs => .inl hs) hext _ r2 (fun g hg => by
  have hlt:=hrng g (List.mem_append_left _ (hbs1 g hg))
  exact ⟨hheap g hlt (hne1 g hg),hst1 g hlt (hne1 g hg)⟩)
 have t2:=AC.mono (w':=w') (St':=fun b o' => St b o' ∨ (v'.ownBlock = some b ∧ o' < (n + m) * es)) (fun b o' hs => .inl hs) hext _ s2 (fun g hg => by
  have hlt:=hrng g (List.mem_append_right _ (s4 g hg))
  exact ⟨hheap g hlt (hne3 g hg),hst1 g hlt (hne3 g hg)⟩)
 have hv : Ow P w' (fun b o' => St b o' ∨ (v'.ownBlock = some b ∧ o' < (n + m) * es)) (.own e (n + m) (cs ++ T2 (opV (Bw σ x) y))) v' (v'.ownBlock.toList ++ (bs1 ++ b3)):=by
  refine ⟨hlim,xs ++ us,bs1 ++ b3,by rw [hcsz]; exact o1,t1.join t2,rfl,?_,?_⟩
  ·intro g hg o'
   rw [hcsz]
   refine ⟨fun hh => ?_,fun hh => .inr ⟨hg,hh⟩⟩
   rcases hh with hh | hh
   ·rcases o3 with e1 | e1
    ·have:=(r4 g (by rw [<- e1]; exact hg) o').1 hh
     exact Nat.lt_of_lt_of_le this (Nat.mul_le_mul_right _ (by omega))
    ·rw [hg] at e1
     simp only [Option.some.injEq] at e1
     have:=h.st g o' hh
     omega
   ·exact hh.2
  ·intro h0
   have hn0 : n = 0:=by omega
   have hm0 : m = 0:=by omega
   rw [r5 hn0]
   have hl0 : us.length = 0:=by
    obtain ⟨_,_,_,_,hl0,_⟩:=s1
    rw [hl0,hm0]; simp
   rw [s2.length] at hl0
   rw [List.eq_nil_of_length_eq_zero hl0]
   rfl
 have hnd3 : (bs1 ++ b3).Nodup:=List.nodup_append.2 ⟨hn1'.2.1,s3,fun p hp q hq e1 => n12.2.2 p (hbs1 p hp) q (s4 q hq) e1⟩
 have fin : ∀ hand2,HSim P nt bx base (fun b o' => St b o' ∨ (v'.ownBlock = some b ∧ o' < (n + m) * es)) B2 hand2 (Bw (Bw σ x) y) a w' -> (∀ g ∈ v'.ownBlock.toList,g ∈ hand2) -> (∀ g ∈ b1 ++ b2,g ∈ hand2) -> (∀ g ∈ v'.ownBlock.toList,g ∉ bs1 ++ b3) ->
   Rel P nt bx base St0 w0 (upd (Bw (Bw σ x) y) d (.own e (n + m) (cs ++ T2 (opV (Bw σ x) y)))) (a.put (some d) v') w':=by
  intro hand2 g1 g2 g3 g4
  refine ⟨_,upd B2 d (v'.ownBlock.toList ++ (bs1 ++ b3)),g1.put hd hx hv.slot ?_ ?_ hv.B9.1 hv.MF,?_,?_,QG hz o2.size⟩
  ·refine List.nodup_append.2 ⟨by cases v'.ownBlock <;> simp,hnd3,fun p hp q hq e1 => g4 p hp (e1 ▸ hq)⟩
  ·intro g hg
   rcases List.mem_append.1 hg with hg | hg
   ·exact g2 g hg
   ·rcases List.mem_append.1 hg with hg | hg
    ·exact g3 g (List.mem_append_left _ (hbs1 g hg))
    ·exact g3 g (List.mem_append_right _ (s4 g hg))
  ·exact hb.grown o2 hz (fun g hg => (q2.hrange g (List.mem_append_left _ (hxb g hg))).1)
  ·intro b o' hlt
   rw [<- hst b o' hlt]
   exact hst1 b (hz b hlt) (fun q hq e1 => (q2.hrange q (List.mem_append_left _ (hxb q hq))).1 (e1 ▸ hlt)) o'
 refine Ie hr ⟨_,hk,?_⟩
 rw [ho]
 rcases o3 with e1 | e1
 ·refine fin (b1 ++ b2) h3 (fun g hg => ?_) (fun _ h => h) (fun g hg hm => ?_)
  ·rw [e1] at hg; rw [r3]; exact List.mem_append_left _ (List.mem_append_left _ hg)
  ·rw [e1] at hg
   have hq : (a.eval x).ownBlock = some g:=by simpa using hg
   rcases List.mem_append.1 hm with hm | hm
   ·exact hne1 g hm g hq rfl
   ·exact hne3 g hm g hq rfl
 ·have hlt:=(o1.lt _ e1).2
  have h4:=h3.fresh (bs:=[w.heap.size]) (by simp) (by intro g hg; simp only [List.mem_singleton] at hg; subst hg; exact ⟨X2 hz,hlt⟩)
   (by intro s g hg hm; simp only [List.mem_singleton] at hm; have:=(q2.range s g hg).2; omega)
   (by intro g hg hm; simp only [List.mem_singleton] at hm; have:=hrng g hg; omega)
  refine fin _ h4 (fun g hg => ?_) (fun g hg => List.mem_append_left _ hg) (fun g hg hm => ?_)
  ·rw [e1] at hg; exact List.mem_append_right _ (by simpa using hg)
  ·rw [e1] at hg
   have hq : g = w.heap.size:=by simpa using hg
   have : g < w.heap.size:=by
    rcases List.mem_append.1 hm with hm | hm
    ·exact hrng g (List.mem_append_left _ (hbs1 g hm))
    ·exact hrng g (List.mem_append_right _ (s4 g hm))
   omega
end
end Go.Proofs.YtkclaipnejgloaaGreatDoor
namespace Go.Proofs.YtkclaipnejgloaaGreatDoor
open Go.RowKit
set_option linter.unusedVariables false
section
variable {P : Program} {nt : Nat} {base : Bs} {bx : List Nat} {St St' St0 : Nat -> Nat -> Prop} {B : Nat -> List Nat} {hand : List Nat} {σ σ' : PS} {a : Act} {w w' w0 : World} {K : PS -> Prop} {Q : Exit -> Act -> World -> Prop} {o : Oper}
def kill (D : List Nat) (σ : PS) : PS:=fun s => if D.contains s = true then .undef else match EB (σ s) with
 | some b => if D.contains b = true then .undef else σ s
 | none => σ s
theorem NZ (D : List Nat) (σ : PS) (s : Nat) : kill D σ s = .undef ∨ kill D σ s = σ s:=by
 unfold kill
 split
 ·exact .inl rfl
 ·split
  ·split
   ·exact .inl rfl
   ·exact .inr rfl
  ·exact .inr rfl
theorem RS {D : List Nat} {σ : PS} {s : Nat} (h : D.contains s = true) : kill D σ s = .undef:=by unfold kill; rw [if_pos h]
theorem SK {D : List Nat} {σ : PS} {s b : Nat} (h : EB (kill D σ s) = some b) : EB (σ s) = some b ∧ D.contains b = false:=by
 rcases NZ D σ s with e | e
 ·rw [e] at h; cases h
 ·have h2:=h
  rw [e] at h2
  refine ⟨h2,?_⟩
  unfold kill at h
  split at h
  ·cases h
  ·rw [h2] at h
   simp only at h
   split at h
   ·cases h
   ·rename_i hx; simpa using hx
theorem U0 {D : List Nat} {σ : PS} {s : Nat} {cs : List V} (h : EM (σ s) = some cs) (hd : D.contains s = false) : kill D σ s = σ s:=by
 have hr : EB (σ s) = none:=by cases hs : σ s <;> rw [hs] at h <;> first | rfl | cases h
 unfold kill
 rw [if_neg (by rw [hd]; simp),hr]
theorem LG (D : List Nat) (h : HSim P nt bx base St B hand σ a w) : ∃ B',HSim P nt bx base St B' hand (kill D σ) a w ∧ (∀ s,D.contains s = true -> B' s = []) ∧ ∀ s,B' s = [] ∨ B' s = B s:=by
 have hex : ∀ s,∃ b : List Nat,A3 P w St (tm a) (kill D σ s) (tm a s) b ∧ (b = [] ∨ b = B s) ∧ (D.contains s = true -> b = []):=by
  intro s
  rcases NZ D σ s with e | e
  ·exact ⟨[],by rw [e]; rfl,.inl rfl,fun _ => rfl⟩
  ·by_cases hd : D.contains s = true
   ·exact ⟨[],by rw [RS hd]; rfl,.inl rfl,fun _ => rfl⟩
   ·exact ⟨B s,by rw [e]; exact h.slot s,.inr rfl,fun e => absurd e hd⟩
 obtain ⟨B',hB⟩:=Classical.axiomOfChoice hex
 have h1:=fun s => (hB s).1
 have h2:=fun s => (hB s).2.1
 have hsub : ∀ s,∀ g ∈ B' s,g ∈ B s:=by
  intro s g hg
  rcases h2 s with e | e
  ·rw [e] at hg; simp at hg
  ·rw [e] at hg; exact hg
 refine ⟨B',?_,fun s => (hB s).2.2,h2⟩
 exact
 { h with
  slot:=h1
  boxes:=fun s cs e => by
   rcases NZ D σ s with e' | e'
   ·rw [e'] at e; cases e
   ·rw [e'] at e; exact h.boxes s cs e
  crefs:=fun s b e => by
   obtain ⟨e1,e2⟩:=SK e
   obtain ⟨cs,hcs⟩:=h.crefs s b e1
   exact ⟨cs,by rw [U0 hcs e2]; exact hcs⟩
  nodup:=fun s => by
   rcases h2 s with e | e
   ·rw [e]; exact List.nodup_nil
   ·rw [e]; exact h.nodup s
  apart:=fun s t hst g hg hg' => h.apart s t hst g (hsub s g hg) (hsub t g hg')
  hapart:=fun s g hg => h.hapart s g (hsub s g hg)
  range:=fun s g hg => h.range s g (hsub s g hg) }
theorem eV {base : Bs} {St0 : Nat -> Nat -> Prop} {w0 w : World} {a : Act} (D : List Nat) (hr : Rel P nt bx base St0 w0 σ a w) : Rel P nt bx base St0 w0 (kill D σ) a w:=by
 obtain ⟨St,B,h,hb,hst,hz⟩:=hr
 obtain ⟨B',h',_⟩:=LG D h
 exact ⟨St,B',h',hb,hst,hz⟩
theorem HSim.giveUp (h : HSim P nt bx base St B hand σ a w) (p : Nat) : ∃ B',HSim P nt bx base St B' (hand ++ B p) (kill [p] σ) a w ∧ B' p = []:=by
 obtain ⟨B',h',h1,h2⟩:=LG [p] h
 have hsub : ∀ s,∀ g ∈ B' s,g ∈ B s ∧ s ≠ p:=by
  intro s g hg
  have hne : s ≠ p:=fun e => by subst e; rw [h1 s (by simp)] at hg; simp at hg
  rcases h2 s with e | e
  ·rw [e] at hg; simp at hg
  ·rw [e] at hg; exact ⟨hg,hne⟩
 exact ⟨B',
 { h' with
  hnodup:=List.nodup_append.2 ⟨h.hnodup,h.nodup p,fun x hx y hy e => by subst e; exact h.hapart p x hy hx⟩
  hapart:=fun s g hg hm => by
   obtain ⟨g1,g2⟩:=hsub s g hg
   rcases List.mem_append.1 hm with hm | hm
   ·exact h.hapart s g g1 hm
   ·exact h.apart s p g2 g g1 hm
  hrange:=fun g hg => by
   rcases List.mem_append.1 hg with hg | hg
   ·exact h.hrange g hg
   ·exact h.range p g hg },h1 p (by simp)⟩
theorem HSim.swap (h : HSim P nt bx base St B hand σ a w) {s : Nat} (hx : s ∈ bx) (hno : ∀ q,EB (σ q) ≠ some s) (hB : B s = []) {c : V} {bs : List Nat} (hc : A3 P w St (tm a) c (tm a s) bs) (hrf : EB c = none) (hn : bs.Nodup) (hs : ∀ g ∈ bs,g ∈ hand) :
  HSim P nt bx base St (upd B s bs) [] (upd σ s c) a w:=by
 refine
 { h with
  slot:=fun q => by
   by_cases e : q = s
   ·subst e; rw [upd_same,upd_same]; exact hc
   ·rw [upd_ne _ _ e,upd_ne _ _ e]; exact h.slot q
  boxes:=fun q cs e => by
   by_cases eq : q = s
   ·subst eq; exact hx
   ·rw [upd_ne _ _ eq] at e; exact h.boxes q cs e
  crefs:=fun q b e => by
   by_cases eq : q = s
   ·subst eq; rw [upd_same,hrf] at e; cases e
   ·rw [upd_ne _ _ eq] at e
    obtain ⟨cs,hcs⟩:=h.crefs q b e
    exact ⟨cs,by rw [upd_ne _ _ (fun eb => by subst eb; exact hno q e)]; exact hcs⟩
  nodup:=fun q => by
   by_cases e : q = s
   ·subst e; rw [upd_same]; exact hn
   ·rw [upd_ne _ _ e]; exact h.nodup q
  apart:=fun q r hqr g hg hg' => by
   by_cases e : q = s
   ·subst e; rw [upd_same] at hg; rw [upd_ne _ _ (Ne.symm hqr)] at hg'; exact h.hapart r g hg' (hs g hg)
   ·rw [upd_ne _ _ e] at hg
    by_cases e' : r = s
    ·subst e'; rw [upd_same] at hg'; exact h.hapart q g hg (hs g hg')
    ·rw [upd_ne _ _ e'] at hg'; exact h.apart q r hqr g hg hg'
  hnodup:=List.nodup_nil
  hapart:=fun _ _ _ => by simp
  range:=fun q g hg => by
   by_cases e : q = s
   ·subst e; rw [upd_same] at hg; exact h.hrange g (hs g hg)
   ·rw [upd_ne _ _ e] at hg; exact h.range q g hg
  hrange:=by simp }
theorem TU {s : Nat} {e : TypeId} {n : Nat} {cs : List V} (hs : σ s = .uni e n cs) (hr : Rel P nt bx base St0 w0 σ a w) : Rel P nt bx base St0 w0 (upd (kill [s] σ) s (.own e n cs)) a w:=by
 obtain ⟨St,B,h,hb,hst,hz⟩:=hr
 have hsl:=h.slot s
 rw [hs] at hsl
 obtain ⟨g,bs',arr,e1,e2,h1,hB,h2,hl,hlen⟩:=hsl
 have hx : s ∈ bx:=h.boxes s cs (by rw [hs]; rfl)
 have hrg:=h.range s g (by rw [hB]; simp)
 obtain ⟨B1,h3,hB1⟩:=h.giveUp s
 rw [List.nil_append,hB] at h3
 have hnd : (g :: bs').Nodup:=by have:=h.nodup s; rw [hB] at this; exact this
 have hnd2:=List.nodup_cons.1 hnd
 have hgB : ∀ q,∀ k ∈ B1 q,k ≠ g:=fun q k hk e => h3.hapart q k hk (by rw [e]; simp)
 have hsame : ∀ k,k ≠ g -> ∀ o',(St k o' ∨ (k = g ∧ o' < n * csz P e)) ↔ St k o':=fun k hk o' => ⟨fun hh => hh.elim id (fun hh => absurd hh.1 hk),.inl⟩
 have h4:=h3.world (w':=w) (St':=fun b o' => St b o' ∨ (b = g ∧ o' < n * csz P e)) (fun b o' hs => .inl hs) (fun _ _ _ => rfl) (Nat.le_refl _) (fun q k hk => ⟨rfl,hsame k (hgB q k hk)⟩) (fun b o' hs => by
  rcases hs with hs | hs
  ·exact h.st b o' hs
  ·rw [hs.1]; exact hrg.2)
 have hrow:=AC.mono (w':=w) (St':=fun b o' => St b o' ∨ (b = g ∧ o' < n * csz P e)) (fun b o' hs => .inl hs) (fun _ _ _ => rfl) cs h1 (fun k hk => ⟨rfl,hsame k (fun e => hnd2.1 (e ▸ hk))⟩)
 have harr : arr.size = n * csz P e:=by rw [<- Array.length_toList,h1.length,hlen]
 have hv : Ow P w (fun b o' => St b o' ∨ (b = g ∧ o' < n * csz P e)) (.own e n cs) (tm a s) (g :: bs'):=by
  refine ⟨hl,arr.toList,bs',?_,hrow,by rw [e1]; rfl,fun k hk o' => ?_,fun h0 => ?_⟩
  ·rw [e1]
   refine ⟨by rw [Array.length_toList,harr],.inr ⟨g,n,arr,rfl,Nat.zero_le _,e2,Nat.le_refl _,?_,harr,?_⟩⟩
   ·unfold maxLen; unfold lim at hl; omega
   ·rw [<- harr,<- Array.length_toList,List.take_length]
  ·rw [e1] at hk
   simp only [Value.ownBlock,Option.some.injEq] at hk
   subst hk
   exact ⟨fun hh => hh.elim (fun hh => absurd hh (h2 o')) (·.2),fun hh => .inr ⟨rfl,hh⟩⟩
  ·subst h0; exact List.eq_nil_of_length_eq_zero (by simpa using hlen)
 have hno : ∀ q,EB (kill [s] σ q) ≠ some s:=fun q hq => by have:=(SK hq).2; simp at this
 refine ⟨_,_,h4.swap hx hno hB1 hv.slot rfl hnd (fun k hk => hk),hb,?_,hz⟩
 intro b o' hlt
 rw [<- hst b o' hlt]
 exact hsame b (fun e => hrg.1 (e ▸ hlt)) o'
theorem Vt {tb : Tb} (htb : KD P tb) {t e : TypeId} {es eb : Nat} {ez : List V} {x y : Operand} {d n : Nat} {k k' : IntKind} (hop : o.op = .makeSlice t x y) (ht : tb t = some (.sl e es eb ez)) (h1 : opV σ x = .int k n) (h2 : opV σ y = .int k' n) (hn : n <= lim)
  (ho : o.dst = some d) (hd : d < nt) (hx : d ∈ bx) (hd0 : OF ∈ bx -> d ≠ 0) (hold : EM (σ d) = none) (hk : K (upd σ d (.uni e n (Oz ez es n)))) : OpS P nt bx base St0 w0 o σ K:=by
 rintro a w Q ⟨St,B,h,hb,hst,hz⟩
 have hcsz:=Sz (htb _ _ ht)
 obtain ⟨i,j,zv,hi,_,_,hu,hj,hjz,hes,heb,hzl,hlz,hes0,heb0,heb1⟩:=htb _ _ ht
 have hrow:=Sk (hzl w St) hes0 hlz n
 have e1 : a.eval x = .int k n:=by obtain ⟨b,hx⟩:=Lp h x; rw [h1] at hx; exact EI hx
 have e2 : a.eval y = .int k' n:=by obtain ⟨b,hy⟩:=Lp h y; rw [h2] at hy; exact EI hy
 have hr : (execOp a.eval o).run P w = .ok (.value (.slice (some ⟨w.heap.size,0,none⟩) n n)) (w.alloc (.cells ((Array.range (n * es)).map (zv.cells[· % zv.cells.size]!)) e)):=by
  have hbig : (j.bytes : Int) * (n : Int) <= 281474976710656:=by
   rw [heb]
   have h3 : eb * n <= 128 * 1099511627776:=Nat.mul_le_mul heb1 hn
   have h4 : ((eb * n : Nat) : Int) = (eb : Int) * n:=by simp
   rw [<- h4]
   omega
  have h5:=run_make (P:=P) w t e j zv hu hj hjz k k' n n (by omega) (Int.le_refl _) hbig (by unfold lim at hn; omega)
  simp only [Int.toNat_natCast,hes] at h5
  simp only [execOp,hop,e1,e2,Sem.run_bind,h5,Result.andThen_ok,Sem.run_pure]
  rfl
 have h6:=h.alloc (St':=St) hz (.cells ((Array.range (n * es)).map (zv.cells[· % zv.cells.size]!)) e) (fun _ _ _ => Iff.rfl) (fun b o hs => Nat.le_of_lt (h.st b o hs))
 have h7:=Oe (St':=St) h hrow (by simp) (.cells ((Array.range (n * es)).map (zv.cells[· % zv.cells.size]!)) e) (fun _ _ _ => Iff.rfl)
 refine Ie hr ⟨_,hk,St,upd B d [w.heap.size],?_,hb.alloc hz _,hst,Nh hz _⟩
 rw [ho]
 exact h6.Q0 hd hx hd0 hold (c:=.uni e n (Oz ez es n)) ⟨w.heap.size,[],_,rfl,alloc_heap_new w _,h7,rfl,fun o hs => absurd (h.st _ o hs) (by omega),hn,by rw [hcsz]; simp [Oz]⟩ (by simp) (by simp) rfl
theorem W0 {p d : Nat} {e : TypeId} {n : Nat} {cs : List V} (hop : o.op = .assign (.tmp p) ∨ o.op = .move (.tmp p)) (hs : σ p = .uni e n cs) (ho : o.dst = some d) (hd : d < nt) (hx : d ∈ bx) (hd0 : OF ∈ bx -> d ≠ 0) (hold : EM (kill [p] σ d) = none) (hk : K (upd (kill [p] σ) d (.uni e n cs))) : OpS P nt bx base St0 w0 o σ K:=by
 rintro a w Q ⟨St,B,h,hb,hst,hz⟩
 have hr : (execOp a.eval o).run P w = .ok (.value (tm a p)) w:=by rcases hop with e | e <;> simp [execOp,e] <;> rfl
 have hsl:=h.slot p
 rw [hs] at hsl
 obtain ⟨B1,h3,hB1⟩:=h.giveUp p
 rw [List.nil_append] at h3
 refine Ie hr ⟨_,hk,St,upd B1 d (B p),?_,hb,hst,hz⟩
 rw [ho]
 exact h3.Q0 hd hx hd0 hold (c:=.uni e n cs) hsl (h.nodup p) (fun _ h => h) rfl
theorem Vv {p d : Nat} {e : TypeId} {n : Nat} {cs : List V} (hop : o.op = .assign (.tmp p) ∨ o.op = .move (.tmp p)) (hs : σ p = .uni e n cs) (ho : o.dst = some d) (hd : d < nt) (hx : d ∉ bx) (hk : K (upd (upd (kill [p] σ) p (.dat n cs)) d (.own e n cs))) : OpS P nt bx base St0 w0 o σ K:=by
 intro a w Q hr
 have h1:=TU hs hr
 have h2 : opV (upd (kill [p] σ) p (.own e n cs)) (.tmp p) = .own e n cs:=by simp [opV,upd_same]
 have h3 : Bw (upd (kill [p] σ) p (.own e n cs)) (.tmp p) = upd (kill [p] σ) p (.dat n cs):=by
  simp only [Bw,upd_same,dg,dg2,dg1]
  funext q
  unfold upd
  split <;> rfl
 refine P1 (K:=K) (x:=.tmp p) hop ho hd hx (by rw [h2]; rfl) ?_ a w Q h1
 rw [h2,h3]
 exact hk
end
end Go.Proofs.YtkclaipnejgloaaGreatDoor
namespace Go.Proofs.YtkclaipnejgloaaGreatDoor
open Go.RowKit
set_option linter.unusedVariables false
section
variable {P : Program} {w : World} {St : Nat -> Nat -> Prop}
theorem RJ {c : V} {v : Value} (h : Rd w St (er c) v) : Ow P w St (er c) v [] ∧ (er c).Fq = true:=by
 cases c <;> first | exact ⟨⟨rfl,h⟩,rfl⟩ | exact h.elim
theorem XM : ∀ (cs : List V) {us : List Value},RdL w St (erL cs) us -> AC P w St (erL cs) us []
 | [],_,h => ⟨h,rfl⟩
 | c :: cs,_,⟨u,us',e,h1,h2⟩ => ⟨u,us',[],[],e,rfl,(RJ (P:=P) h1).2,(RJ h1).1,XM cs h2⟩
theorem aO {c : V} {v : Value} {bs : List Nat} (hc : c.isArg = true) (h : Ow P w St c v bs) : Ow P w St (er c) v []:=by
 have hr:=(h.rda hc).erase
 cases c <;> first | (cases hc; done) | exact ⟨rfl,hr⟩ | skip
 obtain ⟨us,e,hr⟩:=hr
 exact ⟨us,e,XM _ hr⟩
theorem aP {c : V} (hc : c.isArg = true) : EM (er c) = none ∧ EB (er c) = none ∧ c.isVal = true:=by
 cases c <;> first | (cases hc; done) | exact ⟨rfl,rfl,rfl⟩
end
structure Kp (c c' : V) : Prop where
 rd : ∀ (P : Program) (w : World) (St : Nat -> Nat -> Prop) (t : Nat -> Value) (v : Value) (bs : List Nat),A3 P w St t c v bs -> bs.Nodup -> ∃ bs',A3 P w St t c' v bs' ∧ (∀ g ∈ bs',g ∈ bs) ∧ bs'.Nodup
 bx : (EM c').isSome = (EM c).isSome
 rf : ∀ b,EB c' = some b -> EB c = some b
theorem kr {c : V} : Kp c c:=⟨fun _ _ _ _ _ bs h hn => ⟨bs,h,fun _ h => h,hn⟩,rfl,fun _ h => h⟩
theorem kd {c c' : V} (h1 : c.isVal = true) (h2 : dg c = c') : Kp c c':=by
 subst h2
 refine ⟨fun P w St t v bs h hn => ⟨[],((h.ow h1).deg h1).slot,by simp,List.nodup_nil⟩,?_,fun b h => ?_⟩
 ·rw [(NC h1).1,(KM h1).1]
 ·rw [(NC h1).2] at h; cases h
theorem ke {c c' : V} (h1 : c.isArg = true) (h2 : er c = c') : Kp c c':=by
 subst h2
 obtain ⟨e1,e2,e3⟩:=aP h1
 refine ⟨fun P w St t v bs h hn => ⟨[],(aO h1 (h.ow e3)).slot,by simp,List.nodup_nil⟩,?_,fun b h => ?_⟩
 ·rw [e1,(KM e3).1]
 ·rw [e2] at h; cases h
def CW : List V -> List V -> Prop
 | [],cs' => cs' = []
 | c :: cs,cs' => ∃ d ds,cs' = d :: ds ∧ (c = d ∨ (c.Fq = true ∧ (dg1 c = d ∨ er c = d))) ∧ CW cs ds
theorem cwn : CW [] []:=rfl
theorem cwr {c : V} {cs ds : List V} (h : CW cs ds) : CW (c :: cs) (c :: ds):=⟨c,ds,rfl,.inl rfl,h⟩
theorem cwd {c d : V} {cs ds : List V} (h1 : c.Fq = true) (h2 : dg1 c = d) (h : CW cs ds) : CW (c :: cs) (d :: ds):=⟨d,ds,rfl,.inr ⟨h1,.inl h2⟩,h⟩
theorem cwe {c d : V} {cs ds : List V} (h1 : c.Fq = true) (h2 : er c = d) (h : CW cs ds) : CW (c :: cs) (d :: ds):=⟨d,ds,rfl,.inr ⟨h1,.inr h2⟩,h⟩
theorem XK : ∀ {a a' b b' : List V},CW a a' -> CW b b' -> CW (a ++ b) (a' ++ b')
 | [],_,_,_,h,k => by rw [show _ = [] from h]; exact k
 | c :: a,_,_,_,⟨d,ds,e,hc,h⟩,k => by rw [e]; exact ⟨d,ds ++ _,rfl,hc,XK h k⟩
theorem YR {α : Type} {f g : α -> List V} (h : ∀ x,CW (f x) (g x)) : ∀ l : List α,CW (l.flatMap f) (l.flatMap g)
 | [] => rfl
 | x :: l => by rw [List.flatMap_cons,List.flatMap_cons]; exact XK (h x) (YR h l)
theorem aN : ∀ cs : List V,cs.all V.Fq = true -> CW cs (cs.map dg1)
 | [],_ => rfl
 | c :: cs,h => by
  rw [List.all_cons,Bool.and_eq_true] at h
  exact cwd h.1 rfl (aN cs h.2)
theorem Um {P : Program} {w : World} {St : Nat -> Nat -> Prop} : ∀ {cs cs' : List V} {us : List Value} {bs : List Nat},CW cs cs' -> AC P w St cs us bs -> bs.Nodup -> ∃ bs',AC P w St cs' us bs' ∧ (∀ g ∈ bs',g ∈ bs) ∧ bs'.Nodup
 | [],_,_,bs,h,hr,hn => by rw [show _ = [] from h]; exact ⟨bs,hr,fun _ h => h,hn⟩
 | c :: cs,_,_,_,⟨d,ds,e,hc,hcs⟩,⟨u,us',b1,b2,e1,e2,hic,h1,h2⟩,hn => by
  subst e e2
  obtain ⟨n1,n2,n3⟩:=List.nodup_append.1 hn
  obtain ⟨b2',q1,q2,q3⟩:=Um hcs h2 n2
  have key : ∃ b1',d.Fq = true ∧ Ow P w St d u b1' ∧ (∀ g ∈ b1',g ∈ b1) ∧ b1'.Nodup:=by
   rcases hc with rfl | ⟨hcc,rfl | rfl⟩
   ·exact ⟨b1,hic,h1,fun _ h => h,n1⟩
   ·exact ⟨[],Mv hcc,h1.TW hcc,by simp,List.nodup_nil⟩
   ·have:=RJ (P:=P) (Rd.erase c (Ow.rd c h1 hcc))
    exact ⟨[],this.2,this.1,by simp,List.nodup_nil⟩
  obtain ⟨b1',k1,k2,k3,k4⟩:=key
  refine ⟨b1' ++ b2',⟨u,us',b1',b2',e1,rfl,k1,k2,q1⟩,fun g hg => ?_,List.nodup_append.2 ⟨k4,q3,fun a ha b hb => n3 a (k3 a ha) b (q2 b hb)⟩⟩
  rcases List.mem_append.1 hg with h | h
  ·exact List.mem_append_left _ (k3 g h)
  ·exact List.mem_append_right _ (q2 g h)
theorem kb {cs cs' : List V} (h : CW cs cs') : Kp (.box cs) (.box cs'):=by
 refine ⟨?_,rfl,fun b h => by cases h⟩
 rintro P w St t v bs ⟨g,T,bs',arr,e1,e2,hr,rfl,hst⟩ hn
 obtain ⟨h1,h2⟩:=List.nodup_cons.1 hn
 obtain ⟨b',q1,q2,q3⟩:=Um h hr h2
 refine ⟨g :: b',⟨g,T,b',arr,e1,e2,q1,rfl,hst⟩,fun x hx => ?_,List.nodup_cons.2 ⟨fun hm => h1 (q2 _ hm),q3⟩⟩
 rcases List.mem_cons.1 hx with rfl | hx
 ·simp
 ·exact List.mem_cons_of_mem _ (q2 x hx)
theorem ki {e : TypeId} {n : Nat} {cs cs' : List V} (h : CW cs cs') : Kp (.own e n cs) (.own e n cs'):=by
 refine ⟨?_,rfl,fun b h => by cases h⟩
 rintro P w St t v bs ⟨hl,xs,bs',hx,hr,rfl,hst,h0⟩ hn
 obtain ⟨n1,n2,n3⟩:=List.nodup_append.1 hn
 obtain ⟨b',q1,q2,q3⟩:=Um h hr n2
 refine ⟨v.ownBlock.toList ++ b',⟨hl,xs,b',hx,q1,rfl,hst,fun hz => ?_⟩,fun g hg => ?_,List.nodup_append.2 ⟨n1,q3,fun a ha b hb => n3 a ha b (q2 b hb)⟩⟩
 ·rw [h0 hz] at h; exact h
 ·rcases List.mem_append.1 hg with h | h
  ·exact List.mem_append_left _ h
  ·exact List.mem_append_right _ (q2 g h)
section
variable {P : Program} {nt : Nat} {base : Bs} {bx : List Nat} {St0 : Nat -> Nat -> Prop} {w0 w : World} {σ σ' : PS} {a : Act} {K : PS -> Prop} {o : Oper}
theorem Yl (hw : ∀ s,σ' s = .undef ∨ Kp (σ s) (σ' s)) (hf : ∀ s b,EB (σ' s) = some b -> σ' b ≠ .undef) (hr : Rel P nt bx base St0 w0 σ a w) : Rel P nt bx base St0 w0 σ' a w:=by
 obtain ⟨St,B,h,hb,hst,hz⟩:=hr
 have hex : ∀ s,∃ b : List Nat,A3 P w St (tm a) (σ' s) (tm a s) b ∧ (∀ g ∈ b,g ∈ B s) ∧ b.Nodup:=by
  intro s
  rcases hw s with e | k
  ·exact ⟨[],by rw [e]; rfl,by simp,List.nodup_nil⟩
  ·exact k.rd P w St (tm a) (tm a s) (B s) (h.slot s) (h.nodup s)
 obtain ⟨B',hB⟩:=Classical.axiomOfChoice hex
 have hsub : ∀ s,∀ g ∈ B' s,g ∈ B s:=fun s => (hB s).2.1
 refine ⟨St,B',?_,hb,hst,hz⟩
 exact
 { h with
  slot:=fun s => (hB s).1
  boxes:=fun s cs e => by
   rcases hw s with e' | k
   ·rw [e'] at e; cases e
   ·have hb:=k.bx
    rw [e] at hb
    obtain ⟨ds,hd⟩:=Option.isSome_iff_exists.1 hb.symm
    exact h.boxes s ds hd
  crefs:=fun s b e => by
   rcases hw s with e' | k
   ·rw [e'] at e; cases e
   ·obtain ⟨cs,hcs⟩:=h.crefs s b (k.rf b e)
    rcases hw b with e' | k'
    ·exact absurd e' (hf s b e)
    ·have hb:=k'.bx
     rw [hcs] at hb
     exact Option.isSome_iff_exists.1 hb
  nodup:=fun s => (hB s).2.2
  apart:=fun s t hst g hg hg' => h.apart s t hst g (hsub s g hg) (hsub t g hg')
  hapart:=fun s g hg => by simp
  range:=fun s g hg => h.range s g (hsub s g hg) }
theorem ZR {d : Nat} {c' : V} (hw : Kp (σ d) c') (hn : c' ≠ .undef) (hr : Rel P nt bx base St0 w0 σ a w) (hf : ∀ s b,EB (σ s) = some b -> σ b ≠ .undef) : Rel P nt bx base St0 w0 (upd σ d c') a w:=by
 refine Yl (fun s => .inr ?_) (fun s b e => ?_) hr
 ·by_cases e : s = d
  ·subst e; rw [upd_same]; exact hw
  ·rw [upd_ne _ _ e]; exact kr
 ·by_cases e2 : b = d
  ·subst e2; rw [upd_same]; exact hn
  ·rw [upd_ne _ _ e2]
   by_cases e1 : s = d
   ·subst e1; rw [upd_same] at e; exact hf s b (hw.rf b e)
   ·rw [upd_ne _ _ e1] at e; exact hf s b e
theorem Rg {o : Oper} {a : Act} {K K' : Act -> World -> Prop} {R : Exit -> Act -> World -> Prop} (hk : ∀ a w,K a w -> K' a w) : ∀ r,o.upon P a K R r -> o.upon P a K' R r:=by
 intro r h
 unfold Oper.upon at *
 split <;> simp only at h
 ·exact hk _ _ h
 ·exact hk _ _ h
 ·exact hk _ _ h
 ·refine Calls.mono h ?_
  rintro (v | c | _) w' h'
  ·exact hk _ _ h'
  ·exact h'
  ·exact h'
 ·exact Rows.mono h (fun v w' h' => hk _ _ h')
 ·exact h
theorem dw {σA : PS} {d : Nat} {c' : V} (h : OpS P nt bx base St0 w0 o σ (fun σ' => σ' = σA)) (hw : Kp (σA d) c') (hn : c' ≠ .undef) (hk : K (upd σA d c')) : OpS P nt bx base St0 w0 o σ K:=by
 intro a w Q hr
 have h1:=h a w Q hr
 unfold Oper.wp at h1 ⊢
 refine Rg (fun a' w' hx => ?_) _ h1
 obtain ⟨σ',e,hr'⟩:=hx
 subst e
 refine ⟨_,hk,ZR hw hn hr' (fun s b e => ?_)⟩
 obtain ⟨St,B,hs,_⟩:=hr'
 obtain ⟨cs,hcs⟩:=hs.crefs s b e
 intro e2
 rw [e2] at hcs
 cases hcs
end
end Go.Proofs.YtkclaipnejgloaaGreatDoor
namespace Go.Proofs.YtkclaipnejgloaaGreatDoor
open Go.RowKit
set_option linter.unusedVariables false
mutual
def deep : V -> Bool
 | .tok _ => true
 | .int _ _ => true
 | .bool _ => true
 | .str _ => true
 | .own _ _ cs => JN cs
 | .agg cs => JN cs
 | _ => false
def JN : List V -> Bool
 | [] => true
 | c :: cs => deep c && JN cs
end
structure FrB (bs : List Nat) (w w' : World) : Prop where
 os : w'.os = w.os
 tape : w'.tape = w.tape
 output : w'.output = w.output
 size : w.heap.size <= w'.heap.size
 block : ∀ g,g < w.heap.size -> g ∉ bs -> w'.heap[g]? = w.heap[g]?
theorem FrB.refl (bs : List Nat) (w : World) : FrB bs w w:=⟨rfl,rfl,rfl,Nat.le_refl _,fun _ _ _ => rfl⟩
theorem FrB.trans {bs : List Nat} {a b c : World} (h : FrB bs a b) (k : FrB bs b c) : FrB bs a c :=
 ⟨k.os.trans h.os,k.tape.trans h.tape,k.output.trans h.output,Nat.le_trans h.size k.size,fun g hg hb => (k.block g (Nat.lt_of_lt_of_le hg h.size) hb).trans (h.block g hg hb)⟩
theorem FrB.more {bs bs' : List Nat} {a b : World} (h : FrB bs a b) (hs : ∀ g ∈ bs,g ∈ bs') : FrB bs' a b:=⟨h.os,h.tape,h.output,h.size,fun g hg hb => h.block g hg (fun hm => hb (hs g hm))⟩
theorem FrB.set {bs : List Nat} {w : World} {g p : Nat} (hg : g ∈ bs) (u : Value) : FrB bs w (w.setCell ⟨g,p,none⟩ u) :=
 ⟨rfl,rfl,rfl,by simp [World.setCell],fun k _ hk => Below.heap_setCell _ _ _ _ (fun e => hk (by rw [e]; exact hg))⟩
theorem FrB.below {bs : List Nat} {w w' : World} (h : Below w.heap.size w w') : FrB bs w w':=⟨h.os,h.tape,h.output,h.size,fun g hg _ => h.block g hg⟩
section
variable {P : Program} {w w' : World} {St St' : Nat -> Nat -> Prop}
mutual
theorem Ow.kept : ∀ (c : V) {v : Value} {bs : List Nat},deep c = true -> Ow P w St c v bs -> (∀ g ∈ bs,w'.heap[g]? = w.heap[g]? ∧ ∀ o,St' g o ↔ St g o) -> Ow P w' St' c v bs
 | .tok _,_,_,_,⟨h1,h2⟩,_ => ⟨h1,h2⟩
 | .int _ _,_,_,_,⟨h1,h2⟩,_ => ⟨h1,h2⟩
 | .bool _,_,_,_,⟨h1,h2⟩,_ => ⟨h1,h2⟩
 | .str _,_,_,_,⟨h1,h2⟩,_ => ⟨h1,h2⟩
 | .own e n cs,v,bs,hd,⟨hn,xs,bs',h1,h2,h3,h4,h5⟩,hb => by
  refine ⟨hn,xs,bs',?_,AC.kept cs hd h2 (fun g hg => hb g (by rw [h3]; exact List.mem_append_right _ hg)),h3,fun g hg o => ?_,h5⟩
  ·refine ⟨h1.1,?_⟩
   rcases h1.2 with h | ⟨g,cap,cur,rfl,hg,hh,r⟩
   ·exact .inl h
   ·exact .inr ⟨g,cap,cur,rfl,hg,by rw [(hb g (by rw [h3]; simp [Value.ownBlock])).1]; exact hh,r⟩
  ·rw [(hb g (by rw [h3,hg]; simp)).2 o]; exact h4 g hg o
 | .agg cs,_,_,hd,⟨us,e,h⟩,hb => ⟨us,e,AC.kept cs hd h hb⟩
 | .dat _ _,_,_,hd,_,_ => by cases hd
 | .arg _ _,_,_,hd,_,_ => by cases hd
 | .pin _ _ _,_,_,hd,_,_ => by cases hd
 | .tup _,_,_,hd,_,_ => by cases hd
 | .box _,_,_,hd,_,_ => by cases hd
 | .uni _ _ _,_,_,hd,_,_ => by cases hd
 | .same _,_,_,hd,_,_ => by cases hd
 | .cref _ _,_,_,hd,_,_ => by cases hd
 | .adr _ _,_,_,hd,_,_ => by cases hd
 | .gh _ _,_,_,hd,_,_ => by cases hd
 | .undef,_,_,hd,_,_ => by cases hd
theorem AC.kept : ∀ (cs : List V) {us : List Value} {bs : List Nat},JN cs = true -> AC P w St cs us bs -> (∀ g ∈ bs,w'.heap[g]? = w.heap[g]? ∧ ∀ o,St' g o ↔ St g o) -> AC P w' St' cs us bs
 | [],_,_,_,h,_ => h
 | c :: cs,_,_,hd,⟨u,us',b1,b2,e1,e2,hc,h1,h2⟩,hb => by
  have hd' : deep c = true ∧ JN cs = true:=by simpa [JN] using hd
  exact ⟨u,us',b1,b2,e1,e2,hc,Ow.kept c hd'.1 h1 (fun g hg => hb g (by rw [e2]; exact List.mem_append_left _ hg)),AC.kept cs hd'.2 h2 (fun g hg => hb g (by rw [e2]; exact List.mem_append_right _ hg))⟩
end
end
mutual
def Md : V -> Bool
 | .int _ _ => true
 | .bool _ => true
 | .str _ => true
 | .arg _ cs => MU cs
 | .tok _ => true
 | _ => false
def MU : List V -> Bool
 | [] => true
 | c :: cs => Md c && MU cs
end
mutual
def Lr : V -> Bool
 | .tok _ => true
 | .int _ _ => true
 | .bool _ => true
 | .str _ => true
 | .own _ _ cs => Gs cs
 | .agg cs => Gs cs
 | .arg _ cs => MU cs
 | _ => false
def Gs : List V -> Bool
 | [] => true
 | c :: cs => Lr c && Gs cs
end
mutual
theorem jL : ∀ {c : V},deep c = true -> Lr c = true
 | .tok _,_ => rfl
 | .int _ _,_ => rfl
 | .bool _,_ => rfl
 | .str _,_ => rfl
 | .own _ _ cs,h => by rw [Lr]; exact sdL (by rw [deep] at h; exact h)
 | .agg cs,h => by rw [Lr]; exact sdL (by rw [deep] at h; exact h)
 | .dat _ _,h => by cases h
 | .arg _ _,h => by cases h
 | .pin _ _ _,h => by cases h
 | .tup _,h => by cases h
 | .box _,h => by cases h
 | .uni _ _ _,h => by cases h
 | .same _,h => by cases h
 | .cref _ _,h => by cases h
 | .adr _ _,h => by cases h
 | .gh _ _,h => by cases h
 | .fn _,h => by cases h
 | .undef,h => by cases h
theorem sdL : ∀ {cs : List V},JN cs = true -> Gs cs = true
 | [],_ => rfl
 | c :: cs,h => by
  rw [JN,Bool.and_eq_true] at h
  rw [Gs,jL h.1,sdL h.2]; rfl
end
theorem dV {c : V} (h : Md c = true) : Lr c = true:=by
 cases c with
 | arg n cs => rw [Lr]; rw [Md] at h; exact h
 | _ => first | rfl | cases h
theorem sdA : ∀ {cs : List V},MU cs = true -> Gs cs = true
 | [],_ => rfl
 | c :: cs,h => by
  rw [MU,Bool.and_eq_true] at h
  rw [Gs,dV h.1,sdA h.2]; rfl
theorem Iy : ∀ {cs : List V},Gs cs = true ↔ ∀ c ∈ cs,Lr c = true
 | [] => by simp [Gs]
 | c :: cs => by rw [Gs,Bool.and_eq_true,Iy (cs:=cs)]; simp
theorem sdF {α : Type} {f : α -> List V} (h : ∀ x,Gs (f x) = true) (l : List α) : Gs (l.flatMap f) = true:=Iy.2 fun c hc => by
 obtain ⟨a,_,hc⟩:=List.mem_flatMap.1 hc
 exact Iy.1 (h a) c hc
def VP (c : V) : Bool:=Lr c
def OU : V -> Bool
 | .undef => true
 | .agg cs => cs.all VP
 | .box cs => cs.all VP
 | .cref _ _ => true
 | .same _ => true
 | .own _ _ cs => Gs cs
 | .gh _ cs => Gs cs
 | .arg _ cs => MU cs
 | .int _ _ => true
 | .bool _ => true
 | .str _ => true
 | .tok _ => true
 | _ => false
section
variable {P : Program} {w w' : World} {St St' : Nat -> Nat -> Prop} {bs : List Nat}
mutual
theorem Rd.aH (hf : FrB bs w w') (hl : ∀ g ∈ bs,∃ o,¬ St g o) (hst : ∀ b o,St b o -> b < w.heap.size) (hS : ∀ k o,k ∉ bs -> St k o -> St' k o) : ∀ (c : V) {v : Value},Md c = true -> Rd w St c v -> Rd w' St' c v
 | .int _ _,_,_,h => h
 | .bool _,_,_,h => h
 | .str _,_,_,h => h
 | .arg _ cs,_,hd,⟨hn,A,c,e,hc,h,h0⟩ => ⟨hn,A,c,e,hc,fun hp => let ⟨b,off,ea,hw,hr⟩:=h hp; ⟨b,off,ea,fun hne o => hS b o (fun hb => let ⟨o',ho⟩:=hl b hb; ho (hw hne o')) (hw hne o),Cg.aH hf hl hst hS b (cs0:=cs) (fun hne hb => let ⟨o,ho⟩:=hl b hb; ho (hw hne o)) off cs hd (fun h => h) hr⟩,h0⟩
 | .own _ _ _,_,hd,_ => by cases hd
 | .dat _ _,_,hd,_ => by cases hd
 | .pin _ _ _,_,hd,_ => by cases hd
 | .agg _,_,hd,_ => by cases hd
 | .tup _,_,hd,_ => by cases hd
 | .box _,_,hd,_ => by cases hd
 | .uni _ _ _,_,hd,_ => by cases hd
 | .same _,_,hd,_ => by cases hd
 | .cref _ _,_,hd,_ => by cases hd
 | .adr _ _,_,hd,_ => by cases hd
 | .gh _ _,_,hd,_ => by cases hd
 | .tok _,_,_,h => h
 | .undef,_,hd,_ => by cases hd
theorem Cg.aH (hf : FrB bs w w') (hl : ∀ g ∈ bs,∃ o,¬ St g o) (hst : ∀ b o,St b o -> b < w.heap.size) (hS : ∀ k o,k ∉ bs -> St k o -> St' k o) (b : Nat) {cs0 : List V} (hb : cs0 ≠ [] -> b ∉ bs) : ∀ (off : Nat) (cs : List V),MU cs = true -> (cs ≠ [] -> cs0 ≠ []) -> Cg w St b off cs -> Cg w' St' b off cs
 | _,[],_,_,_ => trivial
 | off,c :: cs,hd,hne,⟨⟨h1,u,hu,hr⟩,h2⟩ => by
  have hd' : Md c = true ∧ MU cs = true:=by simpa [MU] using hd
  have hnb:=hb (hne (by simp))
  exact ⟨⟨hS b off hnb h1,u,(World.cell?_of_block (w:=w) (hf.block b (hst b off h1) hnb)).trans hu,Rd.aH hf hl hst hS c hd'.1 hr⟩,Cg.aH hf hl hst hS b hb (off + 1) cs hd'.2 (fun _ => hne (by simp)) h2⟩
end
mutual
theorem Ow.MJ : ∀ (c : V) {v : Value} {b : List Nat},deep c = true -> Ow P w St c v b -> ∀ g ∈ b,∃ o,¬ St g o
 | .tok _,_,_,_,h,g,hg => by rw [h.1] at hg; cases hg
 | .int _ _,_,_,_,h,g,hg => by rw [h.1] at hg; cases hg
 | .bool _,_,_,_,h,g,hg => by rw [h.1] at hg; cases hg
 | .str _,_,_,_,h,g,hg => by rw [h.1] at hg; cases hg
 | .own e n cs,v,b,hd,⟨hn,xs,bs',h1,h2,h3,h4,h5⟩,g,hg => by
  rw [h3] at hg
  rcases List.mem_append.1 hg with hg | hg
  ·exact ⟨n * csz P e,fun hs => absurd ((h4 g (by simpa using hg) _).1 hs) (Nat.lt_irrefl _)⟩
  ·exact AC.MJ cs hd h2 g hg
 | .agg cs,_,_,hd,⟨us,e,h⟩,g,hg => AC.MJ cs hd h g hg
 | .dat _ _,_,_,hd,_,_,_ => by cases hd
 | .arg _ _,_,_,hd,_,_,_ => by cases hd
 | .pin _ _ _,_,_,hd,_,_,_ => by cases hd
 | .tup _,_,_,hd,_,_,_ => by cases hd
 | .box _,_,_,hd,_,_,_ => by cases hd
 | .uni _ _ _,_,_,hd,_,_,_ => by cases hd
 | .same _,_,_,hd,_,_,_ => by cases hd
 | .cref _ _,_,_,hd,_,_,_ => by cases hd
 | .adr _ _,_,_,hd,_,_,_ => by cases hd
 | .gh _ _,_,_,hd,_,_,_ => by cases hd
 | .undef,_,_,hd,_,_,_ => by cases hd
theorem AC.MJ : ∀ (cs : List V) {us : List Value} {b : List Nat},JN cs = true -> AC P w St cs us b -> ∀ g ∈ b,∃ o,¬ St g o
 | [],_,_,_,h,g,hg => by rw [h.2] at hg; cases hg
 | c :: cs,_,_,hd,⟨u,us',b1,b2,e1,e2,hc,h1,h2⟩,g,hg => by
  have hd' : deep c = true ∧ JN cs = true:=by simpa [JN] using hd
  rw [e2] at hg
  rcases List.mem_append.1 hg with hg | hg
  ·exact Ow.MJ c hd'.1 h1 g hg
  ·exact AC.MJ cs hd'.2 h2 g hg
end
theorem YG {c : V} {v : Value} {b : List Nat} (hd : Md c = true) (h : Ow P w St c v b) : b = [] ∧ Rd w St c v:=by
 cases c <;> first | exact h | cases hd
theorem ZG {c : V} {v : Value} (hd : Md c = true) (h : Rd w St c v) : Ow P w St c v []:=by
 cases c <;> first | exact ⟨rfl,h⟩ | cases hd
mutual
theorem Ow.NY (hf : FrB bs w w') (hl : ∀ g ∈ bs,∃ o,¬ St g o) (hst : ∀ b o,St b o -> b < w.heap.size) (hS : ∀ k o,k ∉ bs -> St k o -> St' k o) : ∀ (c : V) {v : Value} {b : List Nat},Lr c = true -> Ow P w St c v b -> (∀ g ∈ b,w'.heap[g]? = w.heap[g]? ∧ ∀ o,St' g o ↔ St g o) -> Ow P w' St' c v b
 | .tok _,_,_,_,⟨h1,h2⟩,_ => ⟨h1,h2⟩
 | .int _ _,_,_,_,⟨h1,h2⟩,_ => ⟨h1,h2⟩
 | .bool _,_,_,_,⟨h1,h2⟩,_ => ⟨h1,h2⟩
 | .str _,_,_,_,⟨h1,h2⟩,_ => ⟨h1,h2⟩
 | .own e n cs,v,b,hd,⟨hn,xs,bs',h1,h2,h3,h4,h5⟩,hb => by
  refine ⟨hn,xs,bs',?_,AC.NY hf hl hst hS cs (by rw [Lr] at hd; exact hd) h2 (fun g hg => hb g (by rw [h3]; exact List.mem_append_right _ hg)),h3,fun g hg o => by rw [(hb g (by rw [h3,hg]; simp)).2 o]; exact h4 g hg o,h5⟩
  refine ⟨h1.1,?_⟩
  rcases h1.2 with h | ⟨g,cap,cur,rfl,hg,hh,r⟩
  ·exact .inl h
  ·exact .inr ⟨g,cap,cur,rfl,hg,by rw [(hb g (by rw [h3]; simp [Value.ownBlock])).1]; exact hh,r⟩
 | .agg cs,_,_,hd,⟨us,e,h⟩,hb => ⟨us,e,AC.NY hf hl hst hS cs (by rw [Lr] at hd; exact hd) h hb⟩
 | .arg n cs,_,_,hd,h,_ => by
  have hd' : Md (.arg n cs) = true:=by rw [Md]; rw [Lr] at hd; exact hd
  obtain ⟨rfl,h2⟩:=YG hd' h
  exact ZG hd' (Rd.aH hf hl hst hS _ hd' h2)
 | .dat _ _,_,_,hd,_,_ => by cases hd
 | .pin _ _ _,_,_,hd,_,_ => by cases hd
 | .tup _,_,_,hd,_,_ => by cases hd
 | .box _,_,_,hd,_,_ => by cases hd
 | .uni _ _ _,_,_,hd,_,_ => by cases hd
 | .same _,_,_,hd,_,_ => by cases hd
 | .cref _ _,_,_,hd,_,_ => by cases hd
 | .adr _ _,_,_,hd,_,_ => by cases hd
 | .gh _ _,_,_,hd,_,_ => by cases hd
 | .fn _,_,_,hd,_,_ => by cases hd
 | .undef,_,_,hd,_,_ => by cases hd
theorem AC.NY (hf : FrB bs w w') (hl : ∀ g ∈ bs,∃ o,¬ St g o) (hst : ∀ b o,St b o -> b < w.heap.size) (hS : ∀ k o,k ∉ bs -> St k o -> St' k o) : ∀ (cs : List V) {us : List Value} {b : List Nat},Gs cs = true -> AC P w St cs us b -> (∀ g ∈ b,w'.heap[g]? = w.heap[g]? ∧ ∀ o,St' g o ↔ St g o) -> AC P w' St' cs us b
 | [],_,_,_,h,_ => h
 | c :: cs,_,_,hd,⟨u,us',b1,b2,e1,e2,hc,h1,h2⟩,hb => by
  have hd' : Lr c = true ∧ Gs cs = true:=by rw [Gs,Bool.and_eq_true] at hd; exact hd
  exact ⟨u,us',b1,b2,e1,e2,hc,Ow.NY hf hl hst hS c hd'.1 h1 (fun g hg => hb g (by rw [e2]; exact List.mem_append_left _ hg)),AC.NY hf hl hst hS cs hd'.2 h2 (fun g hg => hb g (by rw [e2]; exact List.mem_append_right _ hg))⟩
end
theorem Q4 (hf : FrB bs w w') (hl : ∀ g ∈ bs,∃ o,¬ St g o) (hst : ∀ b o,St b o -> b < w.heap.size) (hS : ∀ k o,k ∉ bs -> St k o -> St' k o) {c : V} {v : Value} {b : List Nat} (hs : VP c = true) (h : Ow P w St c v b) (hb : ∀ g ∈ b,w'.heap[g]? = w.heap[g]? ∧ ∀ o,St' g o ↔ St g o) : Ow P w' St' c v b:=Ow.NY hf hl hst hS c hs h hb
theorem Qc (hf : FrB bs w w') (hl : ∀ g ∈ bs,∃ o,¬ St g o) (hst : ∀ b o,St b o -> b < w.heap.size) (hS : ∀ k o,k ∉ bs -> St k o -> St' k o) : ∀ (cs : List V) {us : List Value} {b : List Nat},cs.all VP = true -> AC P w St cs us b -> (∀ g ∈ b,w'.heap[g]? = w.heap[g]? ∧ ∀ o,St' g o ↔ St g o) -> AC P w' St' cs us b
 | [],_,_,_,h,_ => h
 | c :: cs,_,_,hs,⟨u,us',b1,b2,e1,e2,hc,h1,h2⟩,hb => by
  simp only [List.all_cons,Bool.and_eq_true] at hs
  exact ⟨u,us',b1,b2,e1,e2,hc,Q4 hf hl hst hS hs.1 h1 (fun g hg => hb g (by rw [e2]; exact List.mem_append_left _ hg)),Qc hf hl hst hS cs hs.2 h2 (fun g hg => hb g (by rw [e2]; exact List.mem_append_right _ hg))⟩
theorem L0 (hf : FrB bs w w') (hl : ∀ g ∈ bs,∃ o,¬ St g o) (hst : ∀ b o,St b o -> b < w.heap.size) (hS : ∀ k o,k ∉ bs -> St k o -> St' k o) {t : Nat -> Value} {c : V} {v : Value} {b : List Nat} (hs : OU c = true) (h : A3 P w St t c v b) (hb : ∀ g ∈ b,w'.heap[g]? = w.heap[g]? ∧ ∀ o,St' g o ↔ St g o) : A3 P w' St' t c v b:=by
 cases c with
 | undef => exact h
 | agg cs => obtain ⟨us,e,h⟩:=h; exact ⟨us,e,Qc hf hl hst hS cs hs h hb⟩
 | box cs =>
  obtain ⟨g,T,bs',arr,e1,e2,h1,rfl,h2⟩:=h
  exact ⟨g,T,bs',arr,e1,by rw [(hb g (by simp)).1]; exact e2,Qc hf hl hst hS cs hs h1 (fun x hx => hb x (by simp [hx])),rfl,fun o ho => h2 o (((hb g (by simp)).2 o).1 ho)⟩
 | cref s off => exact h
 | same s => exact h
 | own e n cs => exact Ow.NY hf hl hst hS (.own e n cs) (by rw [Lr]; exact hs) h hb
 | arg n cs => exact Q4 (P:=P) (c:=.arg n cs) hf hl hst hS (by rw [VP,Lr]; exact hs) h hb
 | int k n => exact h
 | bool k => exact h
 | str k => exact h
 | dat n cs => cases hs
 | pin u n cs => cases hs
 | fn f => cases hs
 | tok u => exact h
 | gh us cs => exact AC.NY hf hl hst hS cs hs h hb
 | tup cs => cases hs
 | uni e n cs => cases hs
 | adr cs o => cases hs
end
section
variable {P : Program} {nt : Nat} {base : Bs} {bx : List Nat} {St St' St0 : Nat -> Nat -> Prop} {B : Nat -> List Nat} {hand : List Nat} {σ σ' : PS} {a : Act} {w w' w0 : World} {K : PS -> Prop}
theorem ba (h : HSim P nt bx base St B hand σ a w) {s : Nat} {c' : V} {bs : List Nat} (hbs : ∀ g ∈ bs,g ∈ B s) (hf : FrB bs w w') (hl : ∀ g ∈ bs,∃ o,¬ St g o) (hs : ∀ q,q ≠ s -> OU (σ q) = true)
  (hc : A3 P w' St (tm a) c' (tm a s) (B s)) (hb : (EM c').isSome = (EM (σ s)).isSome) (hrf : EB c' = none) : HSim P nt bx base St B hand (upd σ s c') a w':=by
 have hsome : ∀ cs,EM c' = some cs -> ∃ ds,EM (σ s) = some ds:=fun cs e => by
  rw [e] at hb
  cases hx : EM (σ s) with
  | none => rw [hx] at hb; cases hb
  | some ds => exact ⟨ds,rfl⟩
 have hsome' : ∀ cs,EM (σ s) = some cs -> ∃ ds,EM c' = some ds:=fun cs e => by
  rw [e] at hb
  cases hx : EM c' with
  | none => rw [hx] at hb; cases hb
  | some ds => exact ⟨ds,rfl⟩
 exact
 { h with
  slot:=fun q => by
   by_cases e : q = s
   ·subst e; rw [upd_same]; exact hc
   ·rw [upd_ne _ _ e]
    exact L0 hf hl h.st (fun _ _ _ h => h) (hs q e) (h.slot q) (fun g hg => ⟨hf.block g (h.range q g hg).2 (fun hm => h.apart q s e g hg (hbs g hm)),fun _ => Iff.rfl⟩)
  boxes:=fun q cs e => by
   by_cases eq : q = s
   ·subst eq; rw [upd_same] at e; obtain ⟨ds,hd⟩:=hsome cs e; exact h.boxes q ds hd
   ·rw [upd_ne _ _ eq] at e; exact h.boxes q cs e
  crefs:=fun q b e => by
   by_cases eq : q = s
   ·subst eq; rw [upd_same,hrf] at e; cases e
   ·rw [upd_ne _ _ eq] at e
    obtain ⟨cs,hcs⟩:=h.crefs q b e
    by_cases eb : b = s
    ·subst eb; rw [upd_same]; exact hsome' cs hcs
    ·rw [upd_ne _ _ eb]; exact ⟨cs,hcs⟩
  range:=fun q g hg => ⟨(h.range q g hg).1,Nat.lt_of_lt_of_le (h.range q g hg).2 hf.size⟩
  hrange:=fun g hg => ⟨(h.hrange g hg).1,Nat.lt_of_lt_of_le (h.hrange g hg).2 hf.size⟩
  st:=fun b o hs => Nat.lt_of_lt_of_le (h.st b o hs) hf.size
  gl:=h.gl.of (fun b hb o => hb o) (fun b o hb => World.cell?_of_block (hf.block b (h.st b o (hb o)) fun hm => (hl b hm).elim fun o' ho => ho (hb o'))) }
end
end Go.Proofs.YtkclaipnejgloaaGreatDoor
namespace Go.Proofs.YtkclaipnejgloaaGreatDoor
open Go.RowKit
set_option linter.unusedVariables false
def gS : Nat:=900003
def gU : Nat:=900004
def yT : Operand -> List Nat
 | .tmp t => [t]
 | _ => []
section
variable {P : Program} {nt : Nat} {base : Bs} {bx : List Nat} {St St' St0 : Nat -> Nat -> Prop} {B : Nat -> List Nat} {hand : List Nat} {σ σ' : PS} {a : Act} {w w' w0 : World} {K : PS -> Prop} {o : Oper}
theorem TH (h : HSim P nt bx base St B hand σ a w) {s g : Nat} {c' : V} {bs : List Nat} (hg : g ∈ B s) (hf : FrB [g] w w') (hl : ∃ o,¬ St g o) (hs : ∀ q,q ≠ s -> OU (σ q) = true) (hbx : EM (σ s) = none) (hbx' : EM c' = none) (hrf : EB c' = none)
  (hc : A3 P w' St (tm a) c' (tm a s) bs) (hn : bs.Nodup) (hsub : ∀ k ∈ bs,k ∈ B s ∨ k ∈ hand) : HSim P nt bx base St (upd B s bs) [] (upd σ s c') a w':=by
 have hother : ∀ q,q ≠ s -> ∀ k ∈ B q,k ∉ bs:=fun q hq k hk hm => by
  rcases hsub k hm with h1 | h1
  ·exact h.apart q s hq k hk h1
  ·exact h.hapart q k hk h1
 have hrange : ∀ k ∈ bs,¬ base k ∧ k < w.heap.size:=fun k hk => by
  rcases hsub k hk with h1 | h1
  ·exact h.range s k h1
  ·exact h.hrange k h1
 exact
 { h with
  slot:=fun q => by
   by_cases e : q = s
   ·subst e; rw [upd_same,upd_same]; exact hc
   ·rw [upd_ne _ _ e,upd_ne _ _ e]
    exact L0 hf (fun k hk => by simp only [List.mem_singleton] at hk; subst hk; exact hl) h.st (fun _ _ _ h => h) (hs q e) (h.slot q) (fun k hk => ⟨hf.block k (h.range q k hk).2 (fun hm => by simp only [List.mem_singleton] at hm; subst hm; exact h.apart q s e k hk hg),fun _ => Iff.rfl⟩)
  boxes:=fun q cs e => by
   by_cases eq : q = s
   ·subst eq; rw [upd_same,hbx'] at e; cases e
   ·rw [upd_ne _ _ eq] at e; exact h.boxes q cs e
  crefs:=fun q b e => by
   by_cases eq : q = s
   ·subst eq; rw [upd_same,hrf] at e; cases e
   ·rw [upd_ne _ _ eq] at e
    obtain ⟨cs,hcs⟩:=h.crefs q b e
    exact ⟨cs,by rw [upd_ne _ _ (fun eb => by subst eb; rw [hbx] at hcs; cases hcs)]; exact hcs⟩
  nodup:=fun q => by
   by_cases e : q = s
   ·subst e; rw [upd_same]; exact hn
   ·rw [upd_ne _ _ e]; exact h.nodup q
  apart:=fun q r hqr k hk hk' => by
   by_cases e : q = s
   ·subst e; rw [upd_same] at hk; rw [upd_ne _ _ (Ne.symm hqr)] at hk'; exact hother r (Ne.symm hqr) k hk' hk
   ·rw [upd_ne _ _ e] at hk
    by_cases e' : r = s
    ·subst e'; rw [upd_same] at hk'; exact hother q e k hk hk'
    ·rw [upd_ne _ _ e'] at hk'; exact h.apart q r hqr k hk hk'
  hnodup:=List.nodup_nil
  hapart:=fun _ _ _ => by simp
  range:=fun q k hk => by
   by_cases e : q = s
   ·subst e; rw [upd_same] at hk; exact ⟨(hrange k hk).1,Nat.lt_of_lt_of_le (hrange k hk).2 hf.size⟩
   ·rw [upd_ne _ _ e] at hk; exact ⟨(h.range q k hk).1,Nat.lt_of_lt_of_le (h.range q k hk).2 hf.size⟩
  hrange:=by simp
  st:=fun b o hs => Nat.lt_of_lt_of_le (h.st b o hs) hf.size
  gl:=h.gl.of (fun b hb o => hb o) (fun b o hb => World.cell?_of_block (hf.block b (h.st b o (hb o)) fun hm => by simp only [List.mem_singleton] at hm; subst hm; exact hl.elim fun o' ho => ho (hb o'))) }
theorem Un : ∀ {cs : List V},JN cs = true ↔ ∀ c ∈ cs,deep c = true
 | [] => by simp [JN]
 | c :: cs => by rw [JN,Bool.and_eq_true,Un (cs:=cs)]; simp
theorem Vx {e : TypeId} {n off g m : Nat} {cs new : List V} {vs : List Value} {b1 bs : List Nat} (h : Ow P w St (.own e n cs) (.slice (some ⟨g,0,none⟩) n m) b1) (hn : b1.Nodup) (hbn : bs.Nodup) (hap : ∀ k ∈ bs,k ∉ b1)
  (hd : Gs cs = true) (hd' : Gs new = true) (hst : ∀ b o,St b o -> b < w.heap.size) (hnew : AC P w St new vs bs) (hl : off + new.length <= cs.length) :
  g ∈ b1 ∧ (∃ o,¬ St g o) ∧ ∃ cur : Array Value,w.heap[g]? = some (.cells cur e (0,0)) ∧ off + vs.length <= cur.size ∧ ∃ b2,Ow P (w.setRow g (cur.toList.take off ++ vs ++ cur.toList.drop (off + vs.length)).toArray) St (.own e n (Oy cs off new)) (.slice (some ⟨g,0,none⟩) n m) b2 ∧ b2.Nodup ∧ ∀ k ∈ b2,k ∈ b1 ∨ k ∈ bs:=by
 obtain ⟨hn1,xs,bs',hrow,hxs,hb1,hSt,h0⟩:=h
 have hb1' : b1 = g :: bs':=by rw [hb1]; rfl
 subst hb1'
 obtain ⟨hlen,hr⟩:=hrow
 rcases hr with ⟨hr,_⟩ | ⟨g',cap,cur,eg,hg0,hh,q1,q2,q3,q4⟩
 ·cases hr
 cases eg
 have lx : xs.length = cs.length:=hxs.length
 have lv : vs.length = new.length:=hnew.length
 have hN : n * csz P e <= cur.size:=by
  have : (cur.toList.take (n * csz P e)).length = n * csz P e:=by rw [q4]; exact hlen
  rw [List.length_take,Array.length_toList] at this
  omega
 have hle : off + vs.length <= n * csz P e:=by rw [<- hlen,lx,lv]; exact hl
 have e0:=Ta cs off new.length
 rw [e0] at hxs
 obtain ⟨us1,us2,c1,c2,eu,eb,r1,r2⟩:=AC.app hxs
 obtain ⟨us3,us4,c3,c4,eu',eb',r3,r4⟩:=AC.app r2
 have l1 : us1.length = off:=by rw [r1.length,List.length_take,Nat.min_eq_left (by omega)]
 have l3 : us3.length = new.length:=by rw [r3.length,List.length_take,List.length_drop,Nat.min_eq_left (by omega)]
 have hnd2:=List.nodup_cons.1 hn
 have hbs : ∀ k,k ∈ c1 ∨ k ∈ c4 -> k ∈ bs':=by
  intro k hk
  rw [eb,eb']
  simp only [List.mem_append]
  rcases hk with hk | hk
  ·exact .inl hk
  ·exact .inr (.inr hk)
 have hkeep : ∀ (A : Array Value) (k : Nat),k ≠ g -> (w.setRow g A).heap[k]? = w.heap[k]?:=fun A k hk => setRow_other w g k _ hk
 have hmem:=List.mem_cons_self (a:=g) (l:=bs')
 have hdall:=Iy.1 hd
 have hsome : ∃ o,¬ St g o:=⟨n * csz P e,fun hs => absurd ((hSt g rfl _).1 hs) (Nat.lt_irrefl _)⟩
 have hfr : ∀ A : Array Value,FrB [g] w (w.setRow g A):=fun A => ⟨rfl,rfl,rfl,by simp [World.setRow],fun k _ hk => setRow_other w g k _ (by simpa using hk)⟩
 have hlg : ∀ k ∈ [g],∃ o,¬ St k o:=fun k hk => by simp only [List.mem_singleton] at hk; subst hk; exact hsome
 refine ⟨hmem,⟨n * csz P e,fun hs => absurd ((hSt g rfl _).1 hs) (Nat.lt_irrefl _)⟩,cur,hh,by omega,?_⟩
 have hnd3 : (c1 ++ (c3 ++ c4)).Nodup:=by rw [<- eb',<- eb]; exact hnd2.2
 have hnd4:=List.nodup_append.1 hnd3
 have hnd5:=List.nodup_append.1 hnd4.2.1
 have hgb : ∀ k ∈ bs,k ≠ g:=fun k hk e => hap k hk (e ▸ hmem)
 have hg1 : ∀ k,k ∈ c1 ∨ k ∈ c4 -> k ≠ g:=fun k hk e => hnd2.1 (e ▸ hbs k hk)
 generalize hA : (cur.toList.take off ++ vs ++ cur.toList.drop (off + vs.length)) = A
 have m1:=AC.NY (hfr A.toArray) hlg hst (fun _ _ _ h => h) (cs.take off) (Iy.2 fun c hc => hdall c (List.mem_of_mem_take hc)) r1 (fun k hk => ⟨hkeep _ k (hg1 k (.inl hk)),fun _ => Iff.rfl⟩)
 have m4:=AC.NY (hfr A.toArray) hlg hst (fun _ _ _ h => h) (cs.drop (off + new.length)) (Iy.2 fun c hc => hdall c (List.mem_of_mem_drop hc)) r4 (fun k hk => ⟨hkeep _ k (hg1 k (.inr hk)),fun _ => Iff.rfl⟩)
 have mv:=AC.NY (hfr A.toArray) hlg hst (fun _ _ _ h => h) new hd' hnew (fun k hk => ⟨hkeep _ k (hgb k hk),fun _ => Iff.rfl⟩)
 have hx' : A.take (n * csz P e) = us1 ++ (vs ++ us4):=by
  have e1 : us1 = cur.toList.take off:=by
   have h2 : xs.take off = us1:=by rw [eu,<- l1,List.take_left]
   rw [<- h2,<- q4,List.take_take,Nat.min_eq_left (by omega)]
  have e4 : us4 = (cur.toList.drop (off + vs.length)).take (n * csz P e - (off + vs.length)):=by
   have h2 : xs.drop (off + vs.length) = us4:=by
    rw [eu,eu',<- List.append_assoc,List.drop_append_of_le_length (by simp [l1,l3,lv]),List.drop_of_length_le (by simp [l1,l3,lv]),List.nil_append]
   rw [<- h2,<- q4,List.drop_take]
  rw [<- hA,<- e1,List.append_assoc,List.take_append,List.take_of_length_le (by omega),List.take_append,List.take_of_length_le (by omega),e4]
  congr 3
  omega
 refine ⟨g :: (c1 ++ (bs ++ c4)),⟨hn1,us1 ++ (vs ++ us4),c1 ++ (bs ++ c4),⟨?_,.inr ⟨g,m,A.toArray,rfl,hg0,setRow_heap w g cur _ e _ hh,q1,q2,?_,by simpa using hx'⟩⟩,?_,rfl,hSt,fun hz => ?_⟩,?_,?_⟩
 ·have : xs.length = us1.length + (us3.length + us4.length):=by rw [eu,eu']; simp
  simp only [List.length_append]; omega
 ·rw [<- q3,<- hA]; simp; omega
 ·unfold Oy
  rw [List.append_assoc]
  exact m1.join (mv.join m4)
 ·have:=h0 hz
  subst this
  simp only [List.length_nil,Nat.le_zero_eq,Nat.add_eq_zero_iff] at hl
  have:=List.eq_nil_of_length_eq_zero hl.2
  subst this
  simp [Oy]
 ·refine List.nodup_cons.2 ⟨?_,List.nodup_append.2 ⟨hnd4.1,List.nodup_append.2 ⟨hbn,hnd5.2.1,fun x hx y hy e => hap x hx (List.mem_cons_of_mem _ (e ▸ hbs y (.inr hy)))⟩,?_⟩⟩
  ·intro hm
   rcases List.mem_append.1 hm with hm | hm
   ·exact hg1 g (.inl hm) rfl
   ·rcases List.mem_append.1 hm with hm | hm
    ·exact hgb g hm rfl
    ·exact hg1 g (.inr hm) rfl
  ·intro x hx y hy e
   rcases List.mem_append.1 hy with hy | hy
   ·exact hap y hy (List.mem_cons_of_mem _ (e ▸ hbs x (.inl hx)))
   ·exact hnd4.2.2 x hx y (List.mem_append_right _ hy) e
 ·intro k hk
  rcases List.mem_cons.1 hk with rfl | hk
  ·exact .inl hmem
  ·rcases List.mem_append.1 hk with hk | hk
   ·exact .inl (List.mem_cons_of_mem _ (hbs k (.inl hk)))
   ·rcases List.mem_append.1 hk with hk | hk
    ·exact .inr hk
    ·exact .inl (List.mem_cons_of_mem _ (hbs k (.inr hk)))
theorem Pd {D : List Nat} {σ : PS} {s : Nat} (hd : D.contains s = false) (hr : EB (σ s) = none) : kill D σ s = σ s:=by
 unfold kill
 rw [if_neg (by rw [hd]; simp),hr]
theorem Vs {tb : Tb} (htb : KD P tb) {t : TypeId} {dd : TyD} {x : Operand} {d q g off n m : Nat} {e : TypeId} {cs : List V} (hop : o.op = .load t x) (ht : tb t = some dd) (hax : adV σ x = .tok (.pointer (some ⟨g,off,none⟩))) (hg : σ q = .gh [.slice (some ⟨g,0,none⟩) n m] [.own e n cs]) (hl : off + dd.size <= cs.length) (hp : 0 < dd.size)
  (ho : o.dst = some d) (hd : d < nt) (hx : d ∉ bx) (hk : K (upd σ d (getCells dd cs off))) : OpS P nt bx base St0 w0 o σ K:=by
 rintro a w Q ⟨St,B,h,hb,hst,hz⟩
 have hpt:=Np h hax
 have hG:=h.slot q
 rw [hg] at hG
 obtain ⟨u,us',b1,b2,eu,eb,_,hOw,hnil⟩:=hG
 simp only [List.cons.injEq] at eu
 obtain ⟨rfl,-⟩:=eu
 have hrd:=Ow.rd (.own e n cs) (show Ow P w St (.own e n cs) _ b1 from hOw) rfl
 simp only [Rd] at hrd
 obtain ⟨hn,A,c,eA,hc,hrow,h0⟩:=hrd
 simp only [Value.slice.injEq] at eA
 obtain ⟨rfl,-⟩:=eA
 have hn0 : 0 < n:=by
  rcases Nat.eq_zero_or_pos n with hz | hz
  ·have:=h0 hz; subst this; simp only [List.length_nil] at hl; omega
  ·exact hz
 obtain ⟨b,off',eb',hr⟩:=hrow hn0
 simp only [Option.some.injEq,Addr.mk.injEq] at eb'
 obtain ⟨rfl,rfl,-⟩:=eb'
 have hr2:=hr.drop off
 rw [Nat.zero_add] at hr2
 obtain ⟨us,h3,h4⟩:=hr2.list
 obtain ⟨v,hv1,hv2⟩:=RW (htb _ _ ht) h3 h4 hl (.inl hp)
 have hr : (execOp a.eval o).run P w = .ok (.value v) w:=by simp [execOp,hop,hpt,hv1]
 refine Ie hr ⟨_,hk,St,upd B d [],?_,hb,hst,hz⟩
 rw [ho]
 exact h.put hd hx hv2.slot List.nodup_nil (by simp) hv2.B9.1 hv2.MF
def ka (σ : PS) (y : Operand) (vc : List V) : Prop:=((opV σ y).isArg = true ∧ vc = GG (opV σ y)) ∨ (y = .const (.slice none 0 0) ∧ ∃ e,vc = [.own e 0 []])
theorem W3 {tb : Tb} (htb : KD P tb) {t : TypeId} {dd : TyD} {x y : Operand} {e : TypeId} {n off g m : Nat} {cs : List V} (hop : o.op = .store t x y) (ht : tb t = some dd) (hax : adV σ x = .tok (.pointer (some ⟨g,off,none⟩)))
  (hg : σ gS = .gh [.slice (some ⟨g,0,none⟩) n m] [.own e n cs]) (hd : Gs cs = true) {vc : List V} (hv : ka σ y vc) (hd' : Gs vc = true) (hn : vc.length = dd.size) (hl : off + dd.size <= cs.length) (ho : o.dst = none)
  (D : List Nat) (hy : ((yT y).contains gS || D.contains gS) = false) (hsafe : ∀ q,q ≠ gS -> D.contains q = true ∨ OU (Bw σ y q) = true)
  (hk : K (upd (kill D (Bw σ y)) gS (.gh [.slice (some ⟨g,0,none⟩) n m] [.own e n (Oy cs off vc)]))) : OpS P nt bx base St0 w0 o σ K:=by
 have hvv : (opV σ y).isVal = true:=by
  rcases hv with ⟨hv,-⟩ | ⟨rfl,-⟩
  ·exact Hj hv
  ·rfl
 rintro a w Q ⟨St,B,h,hb,hst,hz⟩
 have hpt:=Np h hax
 rw [Bool.or_eq_false_iff] at hy
 obtain ⟨bs,B1,hw,h2,hnb⟩:=Lw h y hvv
 rw [List.nil_append] at h2 hnb
 have htk : ∀ q,(yT y).contains q = false -> Bw σ y q = σ q:=by
  intro q hq
  cases y with
  | tmp p => simp only [yT,List.contains_cons,List.contains_nil,Bool.or_false,beq_eq_false_iff_ne,ne_eq] at hq; simp only [Bw]; rw [upd_ne _ _ hq]
  | _ => rfl
 obtain ⟨B2,h3,_,hBs⟩:=LG D h2
 have hsub3 : ∀ q,∀ k ∈ B2 q,k ∈ B1 q:=fun q k hk => by
  rcases hBs q with e | e
  ·rw [e] at hk; cases hk
  ·rw [e] at hk; exact hk
 have hg2 : Bw σ y gS = .gh [.slice (some ⟨g,0,none⟩) n m] [.own e n cs]:=by rw [htk gS hy.1]; exact hg
 have hg3 : kill D (Bw σ y) gS = .gh [.slice (some ⟨g,0,none⟩) n m] [.own e n cs]:=by rw [Pd hy.2 (by rw [hg2]; rfl)]; exact hg2
 have hG:=h3.slot gS
 rw [hg3] at hG
 obtain ⟨u,us',b1,b2,eu,eb,_,hOw,hnil⟩:=hG
 simp only [List.cons.injEq] at eu
 obtain ⟨rfl,rfl⟩:=eu
 have hb2 : b2 = []:=hnil.2
 subst hb2
 rw [List.append_nil] at eb
 have hnd : b1.Nodup:=by have:=h3.nodup gS; rwa [eb] at this
 have hcells : AC P w St vc (a.eval y).cells.toList bs:=by
  rcases hv with ⟨hv,rfl⟩ | ⟨rfl,e',rfl⟩
  ·exact hw.cells hv
  ·have hb0 : bs = []:=hw.1
   subst hb0
   exact ⟨.slice none 0 0,[],[],[],rfl,rfl,rfl,Vd e',rfl,rfl⟩
 have lv : (a.eval y).cells.toList.length = dd.size:=by rw [hcells.length,hn]
 obtain ⟨k1,k2,cur,k3,k4,bn,k5,k6,k7⟩:=Vx hOw hnd hnb (fun k hk hm => h3.hapart gS k (by rw [eb]; exact hm) hk) hd hd' h3.st hcells (by rw [hn]; exact hl)
 have hst0:=run_storeCells_at (P:=P) g off e (a.eval y).cells.toList 0 cur w k3 (by rw [Nat.add_zero]; exact k4) ((AC.rdL _ hcells).oneCell)
 simp only [Nat.add_zero] at hst0
 have hagr:=htb _ _ ht
 generalize hA : (cur.toList.take off ++ (a.eval y).cells.toList ++ cur.toList.drop (off + (a.eval y).cells.toList.length)).toArray = A at hst0 k5
 have hr : (execOp a.eval o).run P w = .ok .skip (w.setRow g A):=by
  have hsz : (a.eval y).cells.size = dd.size:=by rw [<- lv,Array.length_toList]
  simp [execOp,hop,hpt,Instr.storeAt,Instr.sureAddr,storeVar,hagr.sizeOf,hsz,hst0]
 have hsize : (w.setRow g A).heap.size = w.heap.size:=by simp [World.setRow]
 have hf : FrB [g] w (w.setRow g A):=⟨rfl,rfl,rfl,by rw [hsize]; exact Nat.le_refl _,fun k _ hk => setRow_other w g k _ (by simpa using hk)⟩
 have hgb : ¬ base g:=(h3.range gS g (by rw [eb]; exact k1)).1
 refine YB hr ⟨_,hk,St,upd B2 gS bn,?_,?_,hst,by rw [hsize]; exact hz⟩
 ·rw [ho]
  refine TH h3 (s:=gS) (g:=g) (by rw [eb]; exact k1) hf k2 (fun q hq => ?_) (by rw [hg3]; rfl) rfl rfl ⟨_,[],bn,[],rfl,by simp,rfl,k5,rfl,rfl⟩ k6 (fun k hk => by rw [eb]; exact k7 k hk)
  rcases NZ D (Bw σ y) q with e1 | e1
  ·rw [e1]; rfl
  ·rw [e1]
   cases hc : D.contains q with
   | true => rw [<- e1,RS hc]; rfl
   | false =>
    rcases hsafe q hq with h9 | h9
    ·rw [hc] at h9; cases h9
    ·exact h9
 ·exact hb.trans ⟨rfl,rfl,rfl,by rw [hsize]; exact Nat.le_refl _,fun k hk => setRow_other w g k _ (fun e => hgb (e ▸ hk))⟩
end
end Go.Proofs.YtkclaipnejgloaaGreatDoor
