/-
 A machine on data, part 4: functions that mark. Over no program; no conditions.
-/
import Derived.Test.YtpcbnmcfplioeaaGreatKp
import Derived.Test.YtpcbnmcfplioeaaGreatKb
import Derived.Test.YtpcbnmcfplioeaaGreatKc
namespace Go.Proofs.YtpcbnmcfplioeaaGreat
open Go.RowKit
set_option linter.unusedVariables false
section
variable {P : Program} {w w' : World} {St St' : Nat -> Nat -> Prop}
theorem Jv : ∀ {a b : List V},AX (a ++ b) = (AX a && AX b)
 | [],b => by simp [AX]
 | c :: a,b => by rw [List.cons_append,AX,AX,Jv (a := a),Bool.and_assoc]
theorem Lm {cs : List V} {p : Nat} {c : V} (hp : cs[p]? = some c) : cs = cs.take p ++ c :: cs.drop (p + 1) ∧ p < cs.length := by
 have hk : p < cs.length := by
  rcases Nat.lt_or_ge p cs.length with h | h
  ·exact h
  ·rw [List.getElem?_eq_none h] at hp; cases hp
 have hx : cs[p] = c := by rw [List.getElem?_eq_getElem hk] at hp; injection hp
 refine ⟨?_,hk⟩
 rw [<- hx,<- List.drop_eq_getElem_cons hk,List.take_append_drop]
theorem Yw {e : TypeId} {n : Nat} {cs : List V} {v : Value} {bs : List Nat} {p : Nat} {c : V} (h : Ow P w St (.own e n cs) v bs) (hd : AX cs = true) (hn : bs.Nodup) (hp : cs[p]? = some c) :
  ∃ g cap cur u b1,v = .slice (some ⟨g,0,none⟩) n cap ∧ w.heap[g]? = some (.cells cur e (0,0)) ∧ w.cell? ⟨g,p,none⟩ = some u ∧ w.frozen? ⟨g,p,none⟩ = false ∧ g ∈ bs ∧ g ∉ b1 ∧ b1.Nodup ∧ (∀ x ∈ b1,x ∈ bs) ∧ c.Ds = true ∧ Ow P w St c u b1 ∧
   (∀ w' c',Ow P w' St c' u b1 -> c'.Ds = true -> (∀ x ∈ bs,x ∉ b1 -> w'.heap[x]? = w.heap[x]?) -> Ow P w' St (.own e n (cs.set p c')) v bs) ∧
   (b1 = [] -> ∀ u' c',(∀ w,Ow P w St c' u' []) -> c'.Ds = true -> Ow P (w.setCell ⟨g,p,none⟩ u') St (.own e n (cs.set p c')) v bs) := by
 obtain ⟨hl,xs,bs',h1,h2,h3,h4,h5⟩ := h
 obtain ⟨es,hk⟩ := Lm hp
 have hpos : n ≠ 0 := fun h0 => by rw [h5 h0] at hk; simp at hk
 rcases h1.2 with h | ⟨g,cap,cur,rfl,hg,hh,hcap,hm,hsz,hx⟩
 ·exact absurd h.2 hpos
 have h20 := h2
 rw [es] at h20
 obtain ⟨us1,us2,q1,q2,eu,eb,r1,r2⟩ := h20.app
 obtain ⟨u,us3,b1,b2,eu2,eb2,hc,r3,r4⟩ := r2
 have hl1 : us1.length = p := by rw [r1.length,List.length_take]; omega
 have hxl : xs.length = n * csz P e := h1.1
 have hpx : p < xs.length := by rw [eu,eu2,List.length_append,List.length_cons]; omega
 have hxp : xs[p]? = some u := by rw [eu,eu2,List.getElem?_append_right (by omega),hl1,Nat.sub_self,List.getElem?_cons_zero]
 have hcur : cur[p]? = some u := by
  have e1 := hxp
  rw [<- hx,List.getElem?_take,if_pos (by omega)] at e1
  simpa using e1
 have hbs : bs = g :: bs' := by rw [h3]; rfl
 have hnd : g ∉ bs' ∧ bs'.Nodup := by rw [hbs] at hn; exact List.nodup_cons.1 hn
 have hq : q1.Nodup ∧ (b1 ++ b2).Nodup ∧ ∀ x ∈ q1,∀ y ∈ b1 ++ b2,x ≠ y := by have := hnd.2; rw [eb,eb2] at this; exact List.nodup_append.1 this
 have hq2 := List.nodup_append.1 hq.2.1
 have hset : cs.set p = fun c' => cs.take p ++ c' :: cs.drop (p + 1) := by
  funext c'
  rw [List.set_eq_take_append_cons_drop,if_pos hk]
 have hdd : AX (cs.take p) = true ∧ AX (cs.drop (p + 1)) = true := by
  rw [es,Jv,AX] at hd
  simp only [Bool.and_eq_true] at hd
  exact ⟨hd.1,hd.2.2⟩
 have hcell : w.cell? ⟨g,p,none⟩ = some u := by simp only [World.cell?,hh]; simpa using hcur
 have hnil : ∀ c',n = 0 -> cs.set p c' = [] := fun c' h0 => absurd h0 hpos
 refine ⟨g,cap,cur,u,b1,rfl,hh,hcell,by simp [World.frozen?,hh],by rw [hbs]; simp,fun hm => hnd.1 (by rw [eb,eb2]; simp [hm]),hq2.1,fun x hx => by rw [hbs,eb,eb2]; simp [hx],hc,r3,?_,?_⟩
 ·intro w' c' ho hc' hw
  have hg' : w'.heap[g]? = w.heap[g]? := hw g (by rw [hbs]; simp) (fun hm => hnd.1 (by rw [eb,eb2]; simp [hm]))
  have hin : ∀ x,x ∈ q1 ∨ x ∈ b2 -> w'.heap[x]? = w.heap[x]? := fun x hx => hw x (by rw [hbs,eb,eb2]; rcases hx with hx | hx <;> simp [hx]) (fun hm => by
   rcases hx with hx | hx
   ·exact hq.2.2 x hx x (by simp [hm]) rfl
   ·exact hq2.2.2 x hm x hx rfl)
  refine ⟨hl,xs,bs',⟨h1.1,.inr ⟨g,cap,cur,rfl,hg,by rw [hg']; exact hh,hcap,hm,hsz,hx⟩⟩,?_,h3,h4,hnil c'⟩
  rw [hset,eu,eu2,eb,eb2]
  exact Ay.join (Ay.kept _ hdd.1 r1 (fun x hx => ⟨hin x (.inl hx),fun _ => Iff.rfl⟩)) ⟨u,us3,b1,b2,rfl,rfl,hc',ho,Ay.kept _ hdd.2 r4 (fun x hx => ⟨hin x (.inr hx),fun _ => Iff.rfl⟩)⟩
 ·intro hb0 u' c' ho hc'
  have hother : ∀ x,x ≠ g -> (w.setCell ⟨g,p,none⟩ u').heap[x]? = w.heap[x]? := fun x hx => Below.heap_setCell _ _ _ _ hx
  have hnew : (w.setCell ⟨g,p,none⟩ u').heap[g]? = some (.cells (cur.setIfInBounds p u') e (0,0)) := by
   simp only [World.setCell,Array.getElem?_modify,if_true,hh]
   rfl
  subst hb0
  refine ⟨hl,us1 ++ u' :: us3,bs',⟨?_,.inr ⟨g,cap,cur.setIfInBounds p u',rfl,hg,hnew,hcap,hm,by rw [Array.size_setIfInBounds]; exact hsz,?_⟩⟩,?_,h3,h4,hnil c'⟩
  ·rw [<- hxl,eu,eu2]; simp
  ·rw [Array.toList_setIfInBounds,List.take_set,hx,eu,eu2,List.set_append_right _ _ (by omega),hl1,Nat.sub_self,List.set_cons_zero]
  ·rw [hset,eb,eb2]
   have hne : ∀ x,x ∈ q1 ∨ x ∈ b2 -> x ≠ g := fun x hx e => hnd.1 (by rw [<- e,eb,eb2]; rcases hx with hx | hx <;> simp [hx])
   exact Ay.join (Ay.kept _ hdd.1 r1 (fun x hx => ⟨hother x (hne x (.inl hx)),fun _ => Iff.rfl⟩)) ⟨u',us3,[],b2,rfl,rfl,hc',ho _,Ay.kept _ hdd.2 r4 (fun x hx => ⟨hother x (hne x (.inr hx)),fun _ => Iff.rfl⟩)⟩
end
mutual
def Rc : V -> Nat
 | .int _ _ => 1
 | .str _ => 1
 | .own _ _ cs => BA cs
 | _ => 0
def BA : List V -> Nat
 | [] => 0
 | c :: cs => Rc c + BA cs
end
section
variable (mt : Int -> List UInt8)
mutual
def mkV : V -> Int -> V
 | .int kd _,k => .int kd k
 | .str _,k => .str (mt k)
 | .own e n cs,k => .own e n (I1 cs k)
 | c,_ => c
def I1 : List V -> Int -> List V
 | [],_ => []
 | c :: cs,k => mkV c k :: I1 cs (k + Rc c)
end
def mkA : List V -> Int -> List V
 | [],_ => []
 | .own e n cs :: r,k => .own e n (I1 mt cs k) :: mkA r (k + BA cs)
 | c :: r,k => c :: mkA r k
end
def G4 : List V -> Nat
 | [] => 0
 | .own _ _ cs :: r => BA cs + G4 r
 | _ :: r => G4 r
theorem Nj : ∀ (a b : List V),BA (a ++ b) = BA a + BA b
 | [],b => by simp [BA]
 | c :: a,b => by rw [List.cons_append,BA,BA,Nj a b]; omega
section
variable {mt : Int -> List UInt8}
theorem Sc : ∀ (a b : List V) (k : Int),I1 mt (a ++ b) k = I1 mt a k ++ I1 mt b (k + BA a)
 | [],b,k => by simp [I1,BA]
 | c :: a,b,k => by rw [List.cons_append,I1,I1,Sc a b,List.cons_append,BA,show k + ((Rc c + BA a : Nat) : Int) = k + Rc c + BA a by omega]
theorem MW : ∀ (a : List V) (k : Int),(I1 mt a k).length = a.length
 | [],k => rfl
 | c :: a,k => by rw [I1,List.length_cons,List.length_cons,MW a]
mutual
theorem ZC : ∀ (c : V) (k : Int),deep c = true -> deep (mkV mt c k) = true
 | .tok _,_,_ => rfl
 | .int _ _,_,_ => rfl
 | .bool _,_,h => h
 | .str _,_,_ => rfl
 | .own _ _ cs,k,h => Me cs k h
 | .agg _,_,h => h
 | .dat _ _,_,h => h
 | .arg _ _,_,h => h
 | .pin _ _ _,_,h => h
 | .tup _,_,h => h
 | .box _,_,h => h
 | .uni _ _ _,_,h => h
 | .same _,_,h => h
 | .cref _ _,_,h => h
 | .adr _ _,_,h => h
 | .gh _ _,_,h => h
 | .undef,_,h => h
theorem Me : ∀ (cs : List V) (k : Int),AX cs = true -> AX (I1 mt cs k) = true
 | [],_,_ => rfl
 | c :: cs,k,h => by
  have hd : deep c = true ∧ AX cs = true := by simpa [AX] using h
  rw [I1,AX,ZC c k hd.1,Me cs _ hd.2]; rfl
end
def pfx (mt : Int -> List UInt8) (cs : List V) (k : Int) (p : Nat) : List V := I1 mt (cs.take p) k ++ cs.drop p
def DX (cs : List V) (p : Nat) : Nat := BA (cs.take p)
theorem ar (cs : List V) (k : Int) : pfx mt cs k 0 = cs := by simp [pfx,I1]
theorem ef (cs : List V) (k : Int) (p : Nat) (h : cs.length <= p) : pfx mt cs k p = I1 mt cs k := by simp [pfx,List.take_of_length_le h,List.drop_of_length_le h]
theorem Xb (cs : List V) : DX cs 0 = 0 := rfl
theorem Zv (cs : List V) (p : Nat) (h : cs.length <= p) : DX cs p = BA cs := by simp [DX,List.take_of_length_le h]
theorem Yq {cs : List V} {k : Int} {p : Nat} {c : V} (h : cs[p]? = some c) : (pfx mt cs k p)[p]? = some c := by
 obtain ⟨_,hk⟩ := Lm h
 have hl : (I1 mt (cs.take p) k).length = p := by rw [MW,List.length_take]; omega
 rw [pfx,List.getElem?_append_right (by omega),hl,Nat.sub_self,List.getElem?_drop,Nat.add_zero,h]
theorem VW {cs : List V} {p : Nat} {c : V} (h : cs[p]? = some c) : cs.take (p + 1) = cs.take p ++ [c] := by
 obtain ⟨_,hk⟩ := Lm h
 rw [List.take_succ_eq_append_getElem hk]
 rw [List.getElem?_eq_getElem hk] at h
 injection h with h
 rw [h]
theorem Xa {cs : List V} {p : Nat} {c : V} (h : cs[p]? = some c) : DX cs (p + 1) = DX cs p + Rc c := by
 rw [DX,VW h,Nj,BA,BA]; rfl
theorem cI (cs : List V) (p : Nat) : DX cs p <= BA cs := by
 have := Nj (cs.take p) (cs.drop p)
 rw [List.take_append_drop] at this
 unfold DX
 omega
theorem eh {cs : List V} {k : Int} {p : Nat} {c : V} (h : cs[p]? = some c) : (pfx mt cs k p).set p (mkV mt c (k + DX cs p)) = pfx mt cs k (p + 1) := by
 obtain ⟨_,hk⟩ := Lm h
 have hl : (I1 mt (cs.take p) k).length = p := by rw [MW,List.length_take]; omega
 have hd : cs.drop p = c :: cs.drop (p + 1) := by
  rw [List.getElem?_eq_getElem hk] at h
  injection h with h
  rw [<- h,<- List.drop_eq_getElem_cons hk]
 rw [pfx,pfx,VW h,Sc,List.set_append_right _ _ (by omega),hl,Nat.sub_self,hd,List.set_cons_zero]
 simp [I1,DX]
theorem Nk {cs : List V} {k : Int} {p : Nat} (h : AX cs = true) : AX (pfx mt cs k p) = true := by
 rw [<- List.take_append_drop p cs,Jv] at h
 simp only [Bool.and_eq_true] at h
 rw [pfx,Jv,Me _ _ h.1,h.2]; rfl
end
section
variable {P : Program} {St : Nat -> Nat -> Prop} {mt : Int -> List UInt8}
def Inv (P : Program) (St : Nat -> Nat -> Prop) (mt : Int -> List UInt8) (e : TypeId) (n : Nat) (cs : List V) (k : Int) (v : Value) (bs : List Nat) (w0 : World) (p : Nat) (w : World) : Prop :=
 Ow P w St (.own e n (pfx mt cs k p)) v bs ∧ FrB bs w0 w
def Hs (P : Program) (f : FuncId) (c : V) (k : Int) (c' : V) (k' : Int) : Prop :=
 Km P f ∧ ∀ w St v bs,Ow P w St c v bs -> bs.Nodup -> (∀ g ∈ bs,g < w.heap.size) -> Calls P f #[v,.int .i64 k] w (fun e w' => e = .returned (.int .i64 k') ∧ Ow P w' St c' v bs ∧ FrB bs w w')
variable {e : TypeId} {n : Nat} {cs : List V} {k : Int} {v : Value} {bs : List Nat} {w0 w : World} {p : Nat}
theorem Inv.start (h : Ow P w0 St (.own e n cs) v bs) : Inv P St mt e n cs k v bs w0 0 w0 := ⟨by rw [ar]; exact h,FrB.refl _ _⟩
theorem Inv.done (h : Inv P St mt e n cs k v bs w0 p w) (hp : cs.length <= p) : Ow P w St (.own e n (I1 mt cs k)) v bs ∧ FrB bs w0 w := by
 have := h.1
 rw [ef _ _ _ hp] at this
 exact ⟨this,h.2⟩
theorem Inv.int {kd : IntKind} {x : Int} (h : Inv P St mt e n cs k v bs w0 p w) (hd : AX cs = true) (hn : bs.Nodup) (hp : cs[p]? = some (.int kd x)) :
  ∃ g cap,v = .slice (some ⟨g,0,none⟩) n cap ∧ (∃ u,w.cell? ⟨g,p,none⟩ = some u) ∧ w.frozen? ⟨g,p,none⟩ = false ∧ Inv P St mt e n cs k v bs w0 (p + 1) (w.setCell ⟨g,p,none⟩ (.int kd (k + DX cs p))) := by
 obtain ⟨g,cap,cur,u,b1,e1,e2,e3,e4,e5,e6,e7,e8,e9,e10,e11,e12⟩ := Yw h.1 (Nk hd) hn (Yq hp)
 refine ⟨g,cap,e1,⟨u,e3⟩,e4,?_,h.2.trans (FrB.set e5 _)⟩
 rw [<- eh hp]
 exact e12 e10.1 _ _ (fun w => ⟨rfl,rfl⟩) rfl
theorem Inv.str {x : List UInt8} (h : Inv P St mt e n cs k v bs w0 p w) (hd : AX cs = true) (hn : bs.Nodup) (hp : cs[p]? = some (.str x)) (hm : (mt (k + DX cs p)).length <= maxLen) :
  ∃ g cap,v = .slice (some ⟨g,0,none⟩) n cap ∧ (∃ u,w.cell? ⟨g,p,none⟩ = some u) ∧ w.frozen? ⟨g,p,none⟩ = false ∧ Inv P St mt e n cs k v bs w0 (p + 1) (w.setCell ⟨g,p,none⟩ (.string ⟨(mt (k + DX cs p)).toArray⟩)) := by
 obtain ⟨g,cap,cur,u,b1,e1,e2,e3,e4,e5,e6,e7,e8,e9,e10,e11,e12⟩ := Yw h.1 (Nk hd) hn (Yq hp)
 refine ⟨g,cap,e1,⟨u,e3⟩,e4,?_,h.2.trans (FrB.set e5 _)⟩
 rw [<- eh hp]
 exact e12 e10.1 _ _ (fun w => ⟨rfl,rfl,hm⟩) rfl
theorem Inv.grow {w' : World} (h : Inv P St mt e n cs k v bs w0 p w) (hd : AX cs = true) (hbs : ∀ g ∈ bs,g < w0.heap.size) (hb : Below w.heap.size w w') : Inv P St mt e n cs k v bs w0 p w' :=
 ⟨Ow.kept (.own e n (pfx mt cs k p)) (by rw [deep]; exact Nk hd) h.1 (fun g hg => ⟨hb.block g (Nat.lt_of_lt_of_le (hbs g hg) h.2.size),fun _ => Iff.rfl⟩),h.2.trans (FrB.below hb)⟩
theorem Inv.own {e' : TypeId} {m : Nat} {ds : List V} {f : FuncId} {k' : Int} (h : Inv P St mt e n cs k v bs w0 p w) (hd : AX cs = true) (hn : bs.Nodup) (hbs : ∀ g ∈ bs,g < w0.heap.size) (hp : cs[p]? = some (.own e' m ds))
  (hm : Hs P f (.own e' m ds) (k + DX cs p) (.own e' m (I1 mt ds (k + DX cs p))) k') :
  ∃ g cap u,v = .slice (some ⟨g,0,none⟩) n cap ∧ w.cell? ⟨g,p,none⟩ = some u ∧ u.oneCell' = true ∧ Calls P f #[u,.int .i64 (k + DX cs p)] w (fun e' w' => e' = .returned (.int .i64 k') ∧ Inv P St mt e n cs k v bs w0 (p + 1) w') := by
 obtain ⟨g,cap,cur,u,b1,e1,e2,e3,e4,e5,e6,e7,e8,e9,e10,e11,e12⟩ := Yw h.1 (Nk hd) hn (Yq hp)
 have hlt : ∀ x ∈ bs,x < w.heap.size := fun x hx => Nat.lt_of_lt_of_le (hbs x hx) h.2.size
 refine ⟨g,cap,u,e1,e3,(Ow.rd _ e10 rfl).oneCell,(hm.2 w St u b1 e10 e7 (fun x hx => hlt x (e8 x hx))).mono ?_⟩
 rintro e' w' ⟨h1,h2,h3⟩
 refine ⟨h1,?_,h.2.trans (h3.more e8)⟩
 rw [<- eh hp]
 exact e11 w' _ h2 rfl (fun x hx hnx => h3.block x (hlt x hx) hnx)
end
end Go.Proofs.YtpcbnmcfplioeaaGreat
namespace Go.Proofs.YtpcbnmcfplioeaaGreat
open Go.RowKit
set_option linter.unusedVariables false
section
variable {P : Program} {nt : Nat} {base : Bs} {bx : List Nat} {St St' St0 : Nat -> Nat -> Prop} {B : Nat -> List Nat} {hand : List Nat} {σ σ' : PS} {a : Act} {w w' w0 : World} {K : PS -> Prop}
theorem FrB.toBelow {bs : List Nat} (hf : FrB bs w w') (hb : ∀ g ∈ bs,¬ base g) (hz : ∀ b,base b -> b < w.heap.size) : BelowK base.K w w' :=
 ⟨hf.os,hf.tape,hf.output,hf.size,fun k hk => hf.block k (hz k hk) (fun hm => hb k hm hk)⟩
def Src (P : Program) (nt : Nat) (bx : List Nat) (σ : PS) (opA : Op) (s : Nat) (c c' cS : V) : Prop :=
 ∀ base St B a w o,HSim P nt bx base St B [] σ a w -> o.op = opA -> ∃ v bs,(execOp a.eval o).run P w = .ok (.value v) w ∧ Ow P w St c v bs ∧ bs.Nodup ∧ (∀ g ∈ bs,g ∈ B s) ∧ ∀ w',Ow P w' St c' v bs -> FrB bs w w' -> AZ P w' St (tm a) cS (tm a s) (B s)
theorem eR {s : Nat} {e : TypeId} {n n' : Nat} {cs cs' : List V} (hs : σ s = .own e n cs) : Src P nt bx σ (.move (.tmp s)) s (.own e n cs) (.own e n' cs') (.own e n' cs') := by
 intro base St B a w o h ho
 have h1 := h.slot s
 rw [hs] at h1
 exact ⟨tm a s,B s,by simp [execOp,ho]; rfl,h1,h.nodup s,fun g hg => hg,fun w' h2 _ => h2⟩
theorem UL {tb : Tb} (htb : JY P tb) {s : Nat} {T : TypeId} {n : Nat} {z : List V} {fs : List (Nat × Nat)} {cs cs' : List V} (hT : tb T = some (.st n z fs)) (hs : σ s = .box cs) (hn : cs.length = n) : Src P nt bx σ (.load T (.tmp s)) s (.agg cs) (.agg cs') (.box cs') := by
 intro base St B a w o h ho
 have h1 := h.slot s
 rw [hs] at h1
 obtain ⟨g,Tg,bs',arr,e1,e2,h2,hB,h3⟩ := h1
 have hnd := h.nodup s
 rw [hB] at hnd
 have hnd2 := List.nodup_cons.1 hnd
 refine ⟨.agg arr.toList.toArray,bs',?_,⟨arr.toList,rfl,h2⟩,hnd2.2,fun x hx => by rw [hB]; simp [hx],?_⟩
 ·have hagr := htb _ _ hT
  have hl : arr.toList.length = n := by rw [h2.length,hn]
  have hr := run_loadCells_list (P := P) (w := w) ⟨g,0,none⟩ arr.toList (fun j v hv => by
   rw [add_plain]
   simp only [World.cell?,e2,Nat.zero_add]
   simpa using hv)
  rw [hl] at hr
  have hev : a.eval (.tmp s) = .pointer (some ⟨g,0,none⟩) := e1
  simp [execOp,ho,hev,Instr.loadAt,Instr.sureAddr,loadVar,hagr.isAgg,hagr.sizeOf,TyD.TU,TyD.size,hr]
 ·rintro w' ⟨us,eu,h4⟩ hf
  have eu' : us = arr.toList := by
   have := (Value.agg.inj eu)
   have h5 := congrArg Array.toList this
   simpa using h5.symm
  subst eu'
  have hlt : g < w.heap.size := (h.range s g (by rw [hB]; simp)).2
  exact ⟨g,Tg,bs',arr,e1,by rw [hf.block g hlt hnd2.1]; exact e2,h4,hB,h3⟩
theorem LU {ops : Array Oper} {o : Oper} {d : Option Nat} {p : Op} {t : TypeId} (h : Ba ops o = ⟨d,p,t,none⟩) : o.dst = d ∧ o.op = p ∧ o.guard = none := by
 have e1 := congrArg LO.dst h
 have e2 := congrArg LO.op h
 have e3 := congrArg LO.g h
 refine ⟨e1,e2,?_⟩
 simpa [Ba] using e3
theorem Mb {ops : Array Oper} {R : Exit -> Act -> World -> Prop} {o : Oper} {os : List Oper} (hg : o.guard = none) (h : o.wp P a w (wpList P ops R os) R) : wpList P ops R (o :: os) a w := by
 have hw : Region.wanted o (yielded ops a.tmps) = true := by simp [Region.wanted,hg]
 unfold wpList
 rw [if_pos hw]
 exact .inl h
theorem R7 {opA : Op} {s tA tk tR tK : Nat} {tyA tyk tyR tyK : TypeId} {ts : Array TypeId} {f : FuncId} {cns : List Nat} {y : LC} {k k' : Int} {c c' cS : V} {Q : Exit -> PS -> Prop}
  (hsrc : Src P nt bx σ opA s c c' cS) (hna : fq opA = false) (hk : σ tK = .int .i64 k) (hm : Hs P f c k c' k') (hd : deep c = true) (hsafe : ∀ q,q ≠ s -> LZ (σ q) = true) (hb : (DA cS).isSome = (DA (σ s)).isSome) (hrf : Dj cS = none)
  (hne : tK ≠ tA ∧ tA ≠ tk) (hcn : cns.contains tK = false) (hcR : cns.contains tR = false)
  (h : LS P nt bx y (upd (upd (upd (upd (upd σ s cS) tA .undef) tk .undef) tR .undef) tK (.int .i64 k')) Q) :
  LS P nt bx (.seq (.rgn cns [⟨some tA,opA,tyA,none⟩,⟨some tk,.move (.tmp tK),tyk,none⟩,⟨some tR,.call { callee := .value (.func f),args := #[.tmp tA,.tmp tk],argTypes := ts },tyR,none⟩,⟨some tK,.assign (.tmp tR),tyK,none⟩]) y) σ Q := by
 refine Ti ?_
 intro c0 hc hok hL
 cases c0 <;> first | cases hc | skip
 rename_i id ops d
 simp only [EZ,erC] at hc
 split at hc
 ·cases hc
 rename_i hdd
 simp only [LC.rgn.injEq,true_and] at hc
 have hd0 : d = false := by simpa using hdd
 subst hd0
 obtain ⟨o1,l1,e1,q1,hc⟩ := List.map_eq_cons_iff.1 hc
 obtain ⟨o2,l2,rfl,q2,hc⟩ := List.map_eq_cons_iff.1 hc
 obtain ⟨o3,l3,rfl,q3,hc⟩ := List.map_eq_cons_iff.1 hc
 obtain ⟨o4,l4,rfl,q4,hc⟩ := List.map_eq_cons_iff.1 hc
 have := List.map_eq_nil_iff.1 hc
 subst this
 obtain ⟨a1,b1,g1⟩ := LU q1
 obtain ⟨a2,b2,g2⟩ := LU q2
 obtain ⟨a3,b3,g3⟩ := LU q3
 obtain ⟨a4,b4,g4⟩ := LU q4
 simp only [okC,e1,List.all_cons,List.all_nil,Bool.and_true,Bool.and_eq_true] at hok
 obtain ⟨k1,k2,k3,k4⟩ := hok
 have d1 := MC k1 a1 (by rw [b1]; exact hna)
 have d2 := MC k2 a2 (by rw [b2]; rfl)
 have hL3 : okA bx cns ⟨some tR,.call { callee := .value (.func f),args := #[.tmp tA,.tmp tk],argTypes := ts },tyR,none⟩ = true := by
  simp only [okL,List.all_cons,Bool.and_eq_true] at hL
  exact hL.2.2.1
 have d3' := dU (cns := cns) (ops := ops) k3 (by rw [q3]; exact hL3) b3 rfl a3
 have d3 : tR < nt ∧ tR ∉ bx := ⟨d3'.1,d3'.2.2 hcR⟩
 have hL4 : okA bx cns ⟨some tK,.assign (.tmp tR),tyK,none⟩ = true := by
  simp only [okL,List.all_cons,Bool.and_eq_true] at hL
  exact hL.2.2.2.1
 have d4 := dV (cns := cns) (ops := ops) k4 (by rw [q4]; exact hL4) (.inl ⟨_,b4⟩) a4
 intro base St0 w0 a w hr
 refine wp_region_list ?_
 rw [e1]
 obtain ⟨St,B,hS,hbl,hst,hz⟩ := hr
 obtain ⟨v,bs,r1,ow,nd,sub,back⟩ := hsrc base St B a w o1 hS b1
 have hkv : tm a tK = .int .i64 k := by have := hS.slot tK; rw [hk] at this; exact DO this
 have hK : tK ∉ bx := d4.2.2 hcn
 have z0 : a.tmps.size = nt := hS.size
 have t1 := Rl a tA v (by rw [z0]; exact d1.1)
 have z1 : (a.put (some tA) v).tmps.size = nt := by rw [size_put]; exact z0
 have t2 := Rl (a.put (some tA) v) tk (.int .i64 k) (by rw [z1]; exact d2.1)
 have z2 : ((a.put (some tA) v).put (some tk) (.int .i64 k)).tmps.size = nt := by rw [size_put]; exact z1
 have t3 := Rl ((a.put (some tA) v).put (some tk) (.int .i64 k)) tR (.int .i64 k') (by rw [z2]; exact d3.1)
 have ev : ∀ (a : Act) (t : Nat),a.eval (.tmp t) = tm a t := fun _ _ => rfl
 refine Mb g1 (G0 r1 ?_)
 rw [a1]
 have r2 : (execOp (a.put (some tA) v).eval o2).run P w = .ok (.value (.int .i64 k)) w := by
  simp [execOp,b2,ev,t1,upd_ne _ _ hne.1,hkv]
 refine Mb g2 (G0 r2 ?_)
 rw [a2]
 have eA : ((a.put (some tA) v).put (some tk) (.int .i64 k)).eval (.tmp tA) = v := by rw [ev,t2,upd_ne _ _ hne.2,t1,upd_same]
 have ek : ((a.put (some tA) v).put (some tk) (.int .i64 k)).eval (.tmp tk) = .int .i64 k := by rw [ev,t2,upd_same]
 obtain ⟨⟨fn,hf,hbody,hname⟩,hcall⟩ := hm
 have r3 : (execOp ((a.put (some tA) v).put (some tk) (.int .i64 k)).eval o3).run P w = .ok (.enter f #[v,.int .i64 k]) w := by
  have e2 : ((a.put (some tA) v).put (some tk) (.int .i64 k)).eval (.func f) = .func (.func f) #[] #[] := rfl
  simp only [execOp,b3,resolve,e2,Deferred.ofValue,Sem.run_bind,Sem.run_pure,Result.andThen_ok,invoke,callFunc,run_program,Array.append_empty,Array.empty_append,hf,hbody,hname]
  simp [eA,ek]
 refine Mb g3 ?_
 unfold Oper.wp
 rw [r3,Oper.upon_enter]
 have hlt : ∀ g ∈ bs,g < w.heap.size := fun g hg => (hS.range s g (sub g hg)).2
 refine (hcall w St v bs ow nd hlt).mono ?_
 rintro e w' ⟨rfl,ow',fr⟩
 show wpList P ops _ [o4] (((a.put (some tA) v).put (some tk) (.int .i64 k)).put o3.dst (.int .i64 k')) w'
 rw [a3]
 have r4 : (execOp (((a.put (some tA) v).put (some tk) (.int .i64 k)).put (some tR) (.int .i64 k')).eval o4).run P w' = .ok (.value (.int .i64 k')) w' := by
  simp [execOp,b4,ev,t3,upd_same]
 refine Mb g4 (G0 r4 ?_)
 rw [a4]
 have h2 := XC hS sub fr (Ow.MZ c hd ow) hsafe (back w' ow' fr) hb hrf
 have h3 := h2.put (d := tA) d1.1 d1.2 (c := .undef) (v := v) (bs := []) rfl List.nodup_nil (by simp) rfl (by intro b e; cases e)
 have h4 := h3.put (d := tk) d2.1 d2.2 (c := .undef) (v := .int .i64 k) (bs := []) rfl List.nodup_nil (by simp) rfl (by intro b e; cases e)
 have h5 := h4.put (d := tR) d3.1 d3.2 (c := .undef) (v := .int .i64 k') (bs := []) rfl List.nodup_nil (by simp) rfl (by intro b e; cases e)
 have h6 := h5.put (d := tK) d4.1 hK (c := .int .i64 k') (v := .int .i64 k') (bs := []) ⟨rfl,rfl⟩ List.nodup_nil (by simp) rfl (by intro b e; cases e)
 exact ⟨_,h,St,_,h6,hbl.trans (fr.toBelow (fun g hg => (hS.range s g (sub g hg)).1) hz),hst,RW hz fr.size⟩
end
end Go.Proofs.YtpcbnmcfplioeaaGreat
namespace Go.Proofs.YtpcbnmcfplioeaaGreat
open Go.RowKit
set_option linter.unusedVariables false
abbrev TS := Nat -> Option Value
def Has (T : TS) (nt : Nat) (a : Act) : Prop := a.tmps.size = nt ∧ a.defers = [] ∧ ∀ s u,T s = some u -> tm a s = u
section
variable {P : Program} {nt : Nat} {bx : List Nat} {T : TS} {a : Act} {w w' : World} {K : TS -> World -> Prop} {os : List LO} {tb : Tb}
theorem Ul {d : Nat} {u : Value} (h : Has T nt a) (hd : d < nt) : Has (upd T d (some u)) nt (a.put (some d) u) := by
 refine ⟨by rw [size_put]; exact h.1,by rw [Mf]; exact h.2.1,fun s x hx => ?_⟩
 rw [Rl a d u (by rw [h.1]; exact hd)]
 by_cases e : s = d
 ·subst e; rw [upd_same] at hx ⊢; injection hx
 ·rw [upd_ne _ _ e] at hx ⊢; exact h.2.2 s x hx
theorem H3 {s : Nat} {u : Value} (h : Has T nt a) (hs : T s = some u) : a.eval (.tmp s) = u := h.2.2 s u hs
def MO (P : Program) (nt : Nat) (bx : List Nat) (os : List LO) (T : TS) (w : World) (K : TS -> World -> Prop) : Prop :=
 ∀ (ops : Array Oper) (l : List Oper),l.map (Ba ops) = os -> l.all (Sg nt bx) = true -> ∀ (R : Exit -> Act -> World -> Prop),(∀ T' a' w',K T' w' -> Has T' nt a' -> R .normal a' w') -> ∀ a,Has T nt a -> wpList P ops R l a w
theorem BW (h : K T w) : MO P nt bx [] T w K := by
 intro ops l hl hok R hR a ha
 rw [List.map_eq_nil_iff.1 hl]
 exact hR T a w h ha
theorem Uz {o : Oper} {d : Nat} (h : Sg nt bx o = true) (hd : o.dst = some d) : d < nt := by
 replace h := Tm h
 unfold Uy at h
 rw [hd] at h
 simp only [Bool.and_eq_true,decide_eq_true_eq] at h
 exact h.1
theorem MA {d : Nat} {op : Op} {ty : TypeId} {u : Value} (hr : ∀ (a : Act) (o : Oper),Has T nt a -> o.op = op -> (execOp a.eval o).run P w = .ok (.value u) w) (h : MO P nt bx os (upd T d (some u)) w K) : MO P nt bx (⟨some d,op,ty,none⟩ :: os) T w K := by
 intro ops l hl hok R hR a ha
 obtain ⟨o,l',rfl,q,hl⟩ := List.map_eq_cons_iff.1 hl
 obtain ⟨a1,b1,g1⟩ := LU q
 simp only [List.all_cons,Bool.and_eq_true] at hok
 refine Mb g1 (G0 (hr a o ha b1) ?_)
 rw [a1]
 exact h ops l' hl hok.2 R hR _ (Ul ha (Uz hok.1 a1))
theorem jY {d : Nat} {op : Op} {ty : TypeId} {u : Value} (hr : ∀ (a : Act) (o : Oper),Has T nt a -> o.op = op -> (execOp a.eval o).run P w = .ok (.value u) w') (h : MO P nt bx os (upd T d (some u)) w' K) : MO P nt bx (⟨some d,op,ty,none⟩ :: os) T w K := by
 intro ops l hl hok R hR a ha
 obtain ⟨o,l',rfl,q,hl⟩ := List.map_eq_cons_iff.1 hl
 obtain ⟨a1,b1,g1⟩ := LU q
 simp only [List.all_cons,Bool.and_eq_true] at hok
 refine Mb g1 (G0 (hr a o ha b1) ?_)
 rw [a1]
 exact h ops l' hl hok.2 R hR _ (Ul ha (Uz hok.1 a1))
theorem AI {d s : Nat} {ty : TypeId} {u : Value} (hs : T s = some u) (h : MO P nt bx os (upd T d (some u)) w K) : MO P nt bx (⟨some d,.move (.tmp s),ty,none⟩ :: os) T w K :=
 MA (fun a o ha ho => by simp [execOp,ho,H3 ha hs]) h
theorem EJ {d s : Nat} {ty : TypeId} {u : Value} (hs : T s = some u) (h : MO P nt bx os (upd T d (some u)) w K) : MO P nt bx (⟨some d,.assign (.tmp s),ty,none⟩ :: os) T w K :=
 MA (fun a o ha ho => by simp [execOp,ho,H3 ha hs]) h
theorem Va (a : Act) (u : Value) : a.eval (.const u) = u := rfl
theorem Oq {d : Nat} {ty : TypeId} {u : Value} (h : MO P nt bx os (upd T d (some u)) w K) : MO P nt bx (⟨some d,.assign (.const u),ty,none⟩ :: os) T w K :=
 MA (fun a o ha ho => by simp [execOp,ho,Va]) h
theorem jX (htb : JY P tb) {d s : Nat} {t ty e : TypeId} {es eb n c : Nat} {ez : List V} {A : Option Addr} (ht : tb t = some (.sl e es eb ez)) (hs : T s = some (.slice A n c)) (h : MO P nt bx os (upd T d (some (.int .i64 n))) w K) :
  MO P nt bx (⟨some d,.call { callee := .builtin .len,args := #[.tmp s],argTypes := #[t] },ty,none⟩ :: os) T w K := by
 obtain ⟨i',j,zv,_,_,_,hu,hj,_⟩ := htb _ _ ht
 refine MA (fun a o ha ho => ?_) h
 have e1 := H3 ha hs
 have hr : (Builtin.len_ #[t] o.type #[.slice A n c]).run P w = .ok (.int .i64 n) w := by simp [Builtin.len_,run_underlying hu,goInt]
 simp only [execOp,ho,resolve,invoke,builtin,Sem.run_bind,Sem.run_pure,Result.andThen_ok,List.map_toArray,List.map_cons,List.map_nil,e1,hr]
theorem oc {d x y : Nat} {t t2 ty : TypeId} {m n : Int} (hx : T x = some (.int .i64 m)) (hy : T y = some (.int .i64 n)) (h : MO P nt bx os (upd T d (some (.bool (decide (m < n))))) w K) : MO P nt bx (⟨some d,.binOp .lss t (.tmp x) (.tmp y) t2,ty,none⟩ :: os) T w K := by
 refine MA (fun a o ha ho => ?_) h
 have e1 := H3 ha hx
 have e2 := H3 ha hy
 have hr : (do eqGuard .lss t (.tmp x) (.tmp y) (.int .i64 m) (.int .i64 n); binOp .lss t (.int .i64 m) (.int .i64 n) : Sem Value).run P w = .ok (.bool (decide (m < n))) w := by
  simp only [eqGuard,binOp,Op.intCmp,ne_eq,not_true_eq_false,if_false,Sem.run_bind]; rfl
 simp only [Sem.run_bind] at hr
 simp only [execOp,ho,e1,e2,Sem.run_bind,hr,Result.andThen_ok,Sem.run_pure]
theorem OJ {d x : Nat} {t t2 ty : TypeId} {m : Int} (hx : T x = some (.int .i64 m)) (h0 : 0 <= m) (h1 : m < 9223372036854775807) (h : MO P nt bx os (upd T d (some (.int .i64 (m + 1)))) w K) : MO P nt bx (⟨some d,.binOp .add t (.tmp x) (.const (.int .i64 1)) t2,ty,none⟩ :: os) T w K := by
 refine MA (fun a o ha ho => ?_) h
 have e1 := H3 ha hx
 have e2 := Va a (.int .i64 1)
 have hw : IntKind.i64.wrap (m + 1) = m + 1 := by
  unfold IntKind.wrap
  simp [IntKind.signed,IntKind.bits] <;> omega
 have hr : (do eqGuard .add t (.tmp x) (.const (.int .i64 1)) (.int .i64 m) (.int .i64 1); binOp .add t (.int .i64 m) (.int .i64 1) : Sem Value).run P w = .ok (.int .i64 (IntKind.i64.wrap (m + 1))) w := by
  simp only [eqGuard,binOp,Op.intArith,ne_eq,not_true_eq_false,if_false,Sem.run_bind]; rfl
 rw [hw] at hr
 simp only [Sem.run_bind] at hr
 simp only [execOp,ho,e1,e2,Sem.run_bind,hr,Result.andThen_ok,Sem.run_pure]
theorem Mo (htb : JY P tb) {d x y : Nat} {t ty e : TypeId} {es eb n c g j : Nat} {ez : List V} (ht : tb t = some (.sl e es eb ez)) (hx : T x = some (.slice (some ⟨g,0,none⟩) n c)) (hy : T y = some (.int .i64 j)) (hj : j < n)
  (h : MO P nt bx os (upd T d (some (.pointer (some ⟨g,j * es,none⟩)))) w K) : MO P nt bx (⟨some d,.indexAddr t (.tmp x) (.tmp y),ty,none⟩ :: os) T w K := by
 obtain ⟨i,jj,zv,_,_,_,hu,hjj,_,hes,_⟩ := htb _ _ ht
 refine MA (fun a o ha ho => ?_) h
 have e1 := H3 ha hx
 have e2 := H3 ha hy
 have hc : (0 : Int) <= j ∧ (j : Int) < n := by omega
 have hr : (Instr.indexAt t (.slice (some ⟨g,0,none⟩) n c) (.int .i64 j)).run P w = .ok (.pointer (some ⟨g,j * es,none⟩)) w := by
  simp [Instr.indexAt,asIntOf,run_underlying hu,hc,Go.sizeOf,typeInfo,hjj,hes,add_plain]
  omega
 simp only [execOp,ho,e1,e2,Sem.run_bind,hr,Result.andThen_ok,Sem.run_pure]
theorem HR (htb : JY P tb) {d x f : Nat} {t ty : TypeId} {n off sz g p : Nat} {z : List V} {fs : List (Nat × Nat)} (ht : tb t = some (.st n z fs)) (hf : fs[f]? = some (off,sz)) (hx : T x = some (.pointer (some ⟨g,p,none⟩)))
  (h : MO P nt bx os (upd T d (some (.pointer (some ⟨g,p + off,none⟩)))) w K) : MO P nt bx (⟨some d,.fieldAddr t (.tmp x) f,ty,none⟩ :: os) T w K := by
 obtain ⟨i,arr,gs,_,_,_,_,hu,hfs,hpos⟩ := htb _ _ ht
 have hg : ∃ fd,gs[f]? = some fd ∧ fd.offset = off ∧ csz P fd.type = sz := by
  rw [<- hfs,List.getElem?_map] at hf
  obtain ⟨fd,h1,h2⟩ := Option.map_eq_some_iff.1 hf
  injection h2 with h2 h3
  exact ⟨fd,by simpa using h1,h2,h3⟩
 obtain ⟨fd,hfd,rfl,hsz⟩ := hg
 have hp : 0 < csz P fd.type := by rw [hsz]; exact hpos _ (List.mem_of_getElem? hf)
 obtain ⟨j,hj,hj0⟩ : ∃ j,P.info? fd.type = some j ∧ j.size ≠ 0 := by
  unfold csz at hp
  cases hi : P.info? fd.type with
  | none => rw [hi] at hp; simp at hp
  | some j => rw [hi] at hp; exact ⟨j,rfl,by simp at hp; omega⟩
 refine MA (fun a o ha ho => ?_) h
 have e1 := H3 ha hx
 have hr : (Instr.fieldAt t (.pointer (some ⟨g,p,none⟩)) f).run P w = .ok (.pointer (some ⟨g,p + fd.offset,none⟩)) w := by
  simp [Instr.fieldAt,run_underlying hu,hfd,Instr.sureAddr,fieldPlace,Go.sizeOf,typeInfo,hj,hj0,add_plain]
 simp only [execOp,ho,e1,Sem.run_bind,hr,Result.andThen_ok,Sem.run_pure]
theorem Ii (htb : JY P tb) {d x : Nat} {t ty : TypeId} {dd : TyD} {g p : Nat} {u : Value} (ht : tb t = some dd) (hag : dd.TU = false) (hx : T x = some (.pointer (some ⟨g,p,none⟩))) (hc : w.cell? ⟨g,p,none⟩ = some u)
  (h : MO P nt bx os (upd T d (some u)) w K) : MO P nt bx (⟨some d,.load t (.tmp x),ty,none⟩ :: os) T w K := by
 have hagr := htb _ _ ht
 refine MA (fun a o ha ho => ?_) h
 have e1 := H3 ha hx
 simp [execOp,ho,e1,Instr.loadAt,Instr.sureAddr,loadVar,hagr.isAgg,hag,hc]
theorem Sd (htb : JY P tb) {d x : Nat} {t ty : TypeId} {n : Nat} {z : List V} {fs : List (Nat × Nat)} {g p : Nat} {us : List Value} (ht : tb t = some (.st n z fs)) (hn : us.length = n) (hx : T x = some (.pointer (some ⟨g,p,none⟩))) (hc : ∀ (j : Nat) (u : Value),us[j]? = some u -> w.cell? ⟨g,p + j,none⟩ = some u)
  (h : MO P nt bx os (upd T d (some (.agg us.toArray))) w K) : MO P nt bx (⟨some d,.load t (.tmp x),ty,none⟩ :: os) T w K := by
 have hagr := htb _ _ ht
 refine MA (fun a o ha ho => ?_) h
 have e1 := H3 ha hx
 have hr := run_loadCells_list (P := P) (w := w) ⟨g,p,none⟩ us (fun j v hv => by rw [add_plain]; exact hc j v hv)
 rw [hn] at hr
 simp [execOp,ho,e1,Instr.loadAt,Instr.sureAddr,loadVar,hagr.isAgg,hagr.sizeOf,TyD.TU,TyD.size,hr]
theorem Lg (htb : JY P tb) {x y : Nat} {t ty : TypeId} {z : V} {g p : Nat} {u v : Value} (ht : tb t = some (.sc z)) (hx : T x = some (.pointer (some ⟨g,p,none⟩))) (hy : T y = some v) (hv : v.cells = #[v]) (hc : w.cell? ⟨g,p,none⟩ = some u) (hf : w.frozen? ⟨g,p,none⟩ = false) (h1 : v.oneCell' = true)
  (h : MO P nt bx os T (w.setCell ⟨g,p,none⟩ v) K) : MO P nt bx (⟨none,.store t (.tmp x) (.tmp y),ty,none⟩ :: os) T w K := by
 have hagr := htb _ _ ht
 intro ops l hl hok R hR a ha
 obtain ⟨o,l',rfl,q,hl⟩ := List.map_eq_cons_iff.1 hl
 obtain ⟨a1,b1,g1⟩ := LU q
 simp only [List.all_cons,Bool.and_eq_true] at hok
 have e1 := H3 ha hx
 have e2 := H3 ha hy
 have hr : (execOp a.eval o).run P w = .ok .skip (w.setCell ⟨g,p,none⟩ v) := by
  have hst : (store ⟨g,p,none⟩ v).run P w = .ok () (w.setCell ⟨g,p,none⟩ v) := by rw [run_store P w _ _ _ h1]; simp [hc,hf]
  simp [execOp,b1,e1,e2,Instr.storeAt,Instr.sureAddr,storeVar,hagr.sizeOf,TyD.size,hv,storeCells,add_plain,hst]
 refine Mb g1 (Y4 hr ?_)
 rw [a1]
 exact h ops l' hl hok.2 R hR _ ⟨by rw [size_put]; exact ha.1,by rw [Mf]; exact ha.2.1,ha.2.2⟩
theorem Ga {d : Nat} {ty : TypeId} {f : FuncId} {args : Array Operand} {ts : Array TypeId} {vs : Array Value} (hb : Km P f) (hargs : ∀ a,Has T nt a -> args.map a.eval = vs) (hc : Calls P f vs w (fun e w' => ∃ u,e = .returned u ∧ MO P nt bx os (upd T d (some u)) w' K)) :
  MO P nt bx (⟨some d,.call { callee := .value (.func f),args := args,argTypes := ts },ty,none⟩ :: os) T w K := by
 intro ops l hl hok R hR a ha
 obtain ⟨o,l',rfl,q,hl⟩ := List.map_eq_cons_iff.1 hl
 obtain ⟨a1,b1,g1⟩ := LU q
 simp only [List.all_cons,Bool.and_eq_true] at hok
 obtain ⟨fn,hf,hbody,hname⟩ := hb
 have hr : (execOp a.eval o).run P w = .ok (.enter f vs) w := by
  have e1 := hargs a ha
  have e2 : a.eval (.func f) = .func (.func f) #[] #[] := rfl
  simp only [execOp,b1,resolve,e2,Deferred.ofValue,Sem.run_bind,Sem.run_pure,Result.andThen_ok,invoke,callFunc,run_program,Array.append_empty,Array.empty_append,hf,hbody,hname]
  simp [e1]
 refine Mb g1 ?_
 unfold Oper.wp
 rw [hr,Oper.upon_enter]
 refine hc.mono ?_
 rintro e w1 ⟨u,rfl,h⟩
 show wpList P ops R l' (a.put o.dst u) w1
 rw [a1]
 exact h ops l' hl hok.2 R hR _ (Ul ha (Uz hok.1 a1))
theorem Vt {d x : Nat} {t ty : TypeId} {us : Array Value} (hx : T x = some (.agg us)) (h : MO P nt bx os (upd T d (some (.pointer (some ⟨w.heap.size,0,none⟩)))) (w.alloc (.cells us t)) K) : MO P nt bx (⟨some d,.box t (.tmp x),ty,none⟩ :: os) T w K := by
 refine jY (fun a o ha ho => ?_) h
 have e1 := H3 ha hx
 simp [execOp,ho,e1,Instr.box,newVar,newRow,Value.cells]
def MS (P : Program) (nt : Nat) (bx : List Nat) (l : LC) (T : TS) (w : World) (Q : Exit -> TS -> World -> Prop) : Prop := ∀ c,EZ c = erC l -> okC nt bx c = true -> ∀ a,Has T nt a -> c.wp P (fun e a' w' => ∃ T',Q e T' w' ∧ Has T' nt a') a w
def eX (N : TS -> World -> Prop) (Q : Exit -> TS -> World -> Prop) : Exit -> TS -> World -> Prop
 | .normal,T,w => N T w
 | e,T,w => Q e T w
def WX (id : Nat) (Q : Exit -> TS -> World -> Prop) : Exit -> TS -> World -> Prop
 | .exit i,T,w => if i = id then Q .normal T w else Q (.exit i) T w
 | e,T,w => Q e T w
variable {Q : Exit -> TS -> World -> Prop} {x y : LC}
theorem dI {Q' : Exit -> TS -> World -> Prop} (h : MS P nt bx x T w Q) (hq : ∀ e T w,Q e T w -> Q' e T w) : MS P nt bx x T w Q' :=
 fun c hc hok a ha => wp_mono (h c hc hok a ha) (fun e a w ⟨T',h1,h2⟩ => ⟨T',hq e T' w h1,h2⟩)
theorem BX {cns : List Nat} (h : MO P nt bx os T w (Q .normal)) : MS P nt bx (.rgn cns os) T w Q := by
 intro c hc hok a ha
 cases c <;> first | cases hc | skip
 rename_i id ops' d
 simp only [EZ,erC] at hc
 split at hc
 ·cases hc
 ·rename_i hd
  simp only [LC.rgn.injEq,true_and] at hc
  have : d = false := by simpa using hd
  subst this
  exact wp_region_list (h ops' ops'.toList hc hok _ (fun T' a' w' h1 h2 => ⟨T',h1,h2⟩) a ha)
theorem Ch (h : MS P nt bx x T w (eX (fun T' w' => MS P nt bx y T' w' Q) Q)) : MS P nt bx (.seq x y) T w Q := by
 intro c hc hok a ha
 cases c <;> first | cases hc | skip
 ·simp only [EZ,erC] at hc; split at hc <;> cases hc
 ·rename_i c1 c2
  simp only [EZ,erC,LC.seq.injEq] at hc
  simp only [okC,Bool.and_eq_true] at hok
  refine wp_seq (wp_mono (h c1 hc.1 hok.1 a ha) ?_)
  rintro (_ | id | l | _ | c | _) a' w' ⟨T',h1,h2⟩
  ·exact h1 c2 hc.2 hok.2 a' h2
  all_goals exact ⟨T',h1,h2⟩
theorem dJ (h : Q .normal T w) : MS P nt bx .skip T w Q := by
 intro c hc hok a ha
 cases c <;> first | cases hc | skip
 ·exact wp_skip ⟨T,h,ha⟩
 ·simp only [EZ,erC] at hc; split at hc <;> cases hc
theorem dG {id : Nat} (h : Q (.exit id) T w) : MS P nt bx (.exit id) T w Q := by
 intro c hc hok a ha
 cases c <;> first | (cases hc; done) | skip
 ·simp only [EZ,erC] at hc; split at hc <;> cases hc
 ·simp only [EZ,erC,LC.exit.injEq] at hc; subst hc; exact wp_exit ⟨T,h,ha⟩
theorem Tk (h : Q .ret T w) : MS P nt bx .ret T w Q := by
 intro c hc hok a ha
 cases c <;> first | (cases hc; done) | skip
 ·simp only [EZ,erC] at hc; split at hc <;> cases hc
 ·exact wp_ret ⟨T,h,ha⟩
theorem bN {id : Nat} (h : MS P nt bx x T w (WX id Q)) : MS P nt bx (.blk id x) T w Q := by
 intro c hc hok a ha
 cases c <;> first | (cases hc; done) | skip
 ·simp only [EZ,erC] at hc; split at hc <;> cases hc
 ·simp only [EZ,erC,LC.blk.injEq] at hc
  obtain ⟨rfl,hc⟩ := hc
  refine wp_block (wp_mono (h _ hc hok a ha) ?_)
  rintro (_ | i | l | _ | c | _) a' w' ⟨T',h1,h2⟩
  ·exact ⟨T',h1,h2⟩
  ·simp only [WX] at h1
   simp only [Exit.inBlock]
   split
   ·rename_i e; rw [if_pos e] at h1; exact ⟨T',h1,h2⟩
   ·rename_i e; rw [if_neg e] at h1; exact ⟨T',h1,h2⟩
  all_goals exact ⟨T',h1,h2⟩
theorem dF {t : Nat} {b : Bool} (hb : T t = some (.bool b)) (h1 : b = true -> MS P nt bx x T w Q) (h2 : b = false -> MS P nt bx y T w Q) : MS P nt bx (.cond (.tmp t) x y) T w Q := by
 intro c hc hok a ha
 cases c <;> first | (cases hc; done) | skip
 ·simp only [EZ,erC] at hc; split at hc <;> cases hc
 ·simp only [EZ,erC,LC.cond.injEq] at hc
  obtain ⟨rfl,q1,q2⟩ := hc
  simp only [okC,Bool.and_eq_true] at hok
  exact wp_cond_split (H3 ha hb) (fun e => h1 e _ q1 hok.1 a ha) (fun e => h2 e _ q2 hok.2 a ha)
theorem dH {D : List Nat} (I : Nat -> TS -> World -> Prop) (m0 : Nat) (h0 : I m0 T w) (round : ∀ m T w,I m T w -> MS P nt bx x T w (eX (fun T' w' => ∃ m',m' < m ∧ I m' T' w') Q)) : MS P nt bx (.loop D x) T w Q := by
 intro c hc hok a ha
 cases c <;> first | (cases hc; done) | skip
 ·simp only [EZ,erC] at hc; split at hc <;> cases hc
 ·rename_i c
  simp only [EZ,erC,LC.loop.injEq,true_and] at hc
  intro b k cs
  have key : ∀ n T a w,I n T w -> Has T nt a ->
    ∃ e a' w',(∃ T',Q e T' w' ∧ Has T' nt a') ∧ Arrives P (lone (b.at a (.code c :: .inLoop c :: k)) cs w) b k cs e a' w' := by
   intro n
   induction n using Nat.strongRecOn with
   | _ n ih =>
    intro T a w hI ha
    obtain ⟨e,a₁,w₁,⟨T₁,hq,hr₁⟩,harr⟩ := round n T w hI c hc hok a ha b (.inLoop c :: k) cs
    cases e with
    | normal =>
     obtain ⟨m',hlt,hI₁⟩ := hq
     obtain ⟨e₂,a₂,w₂,hq₂,harr₂⟩ := ih m' hlt T₁ a₁ w₁ hI₁ hr₁
     exact ⟨e₂,a₂,w₂,hq₂,.of_steps (Steps.trans harr (.one step_inLoop)) harr₂⟩
    | exit id => exact ⟨_,a₁,w₁,⟨T₁,hq,hr₁⟩,.pass (x := .inLoop c) rfl (fun _ _ => .inl (by simp)) harr⟩
    | goto l => exact ⟨_,a₁,w₁,⟨T₁,hq,hr₁⟩,.pass (x := .inLoop c) rfl (fun _ _ => .inl (by simp)) harr⟩
    | ret => exact ⟨_,a₁,w₁,⟨T₁,hq,hr₁⟩,.pass (x := .inLoop c) rfl (fun _ _ => .inl (by simp)) harr⟩
    | panic ch => exact ⟨_,a₁,w₁,⟨T₁,hq,hr₁⟩,.pass (x := .inLoop c) rfl (fun _ _ => .inl (by simp)) harr⟩
    | outgrown => exact ⟨_,a₁,w₁,⟨T₁,hq,hr₁⟩,.pass (x := .inLoop c) rfl (fun _ _ => .inl (by simp)) harr⟩
  obtain ⟨e,a',w',hq,harr⟩ := key m0 T a w h0 ha
  exact ⟨e,a',w',hq,.of_steps (.one step_loop) harr⟩
def jQ (ty it bt : TypeId) (body : LC) (r : Nat) : LC :=
 .seq (.rgn [] [⟨some 4,.assign (.const (.int .i64 0)),it,none⟩])
 (.seq (.seq (.rgn [] [⟨some 5,.assign (.const (.int .i64 0)),it,none⟩])
  (.blk 0 (.loop [] (.seq (.seq (.rgn [] [⟨some 6,.move (.tmp 5),it,none⟩,⟨some 7,.move (.tmp 0),ty,none⟩,⟨some 8,.call { callee := .builtin .len,args := #[.tmp 7],argTypes := #[ty] },it,none⟩,⟨some 9,.binOp .lss it (.tmp 6) (.tmp 8) it,bt,none⟩]) (.cond (.tmp 9) .skip (.exit 0)))
   (.seq (.blk 1 body) (.rgn [] [⟨some 10,.move (.tmp 5),it,none⟩,⟨some 11,.binOp .add it (.tmp 10) (.const (.int .i64 1)) it,it,none⟩,⟨some 5,.assign (.tmp 11),it,none⟩]))))))
 (.seq (.rgn [] [⟨some r,.move (.tmp 1),it,none⟩,⟨some 4,.assign (.tmp r),it,none⟩]) .ret))
def gX (vs : List Value) : TS := fun s => vs[s]?
theorem Nh {f : FuncId} {rs : List ResultVar} {l : LC} {t : Nat} (hl : Lit P f nt bx [.tmp t] l) {vs : List Value} (hn : vs.length <= nt) {R : Ending -> World -> Prop} (h : MS P nt bx l (gX vs) w (fun e T' w' => (e = .ret ∨ e = .normal) ∧ ∃ u,T' t = some u ∧ R (.returned u) w')) : Calls P f vs.toArray w R := by
 obtain ⟨⟨fn,c,h1,h2,h3,rfl,h5,h6,h7⟩,_,_⟩ := hl
 refine calls_of_wp h1 h2 ?_
 have htm : ∀ s,tm { tmps := vs.toArray ++ Array.replicate (fn.ntmps - vs.toArray.size) undef,defers := [] } s = (vs[s]?).getD undef := by
  intro s
  unfold tm
  rw [Array.getD_eq_getD_getElem?,Array.getElem?_append]
  split
  ·simp
  ·rename_i hlt
   rw [List.size_toArray] at hlt
   rw [List.getElem?_eq_none (by omega)]
   rw [Array.getElem?_replicate]
   split <;> rfl
 refine wp_mono (h c h6 h7 _ ⟨by simp; omega,rfl,fun s u hu => ?_⟩) ?_
 ·rw [htm]; unfold gX at hu; rw [hu]; rfl
 ·rintro e a' w' ⟨T',⟨he,u,hu,hR⟩,ha⟩
  have hres : (results fn a'.tmps).run P w' = .ok u w' := by
   have e1 : fn.results = #[.tmp t] := by rw [<- Array.toArray_toList (xs := fn.results),h5]
   have e2 : a'.tmps[t]?.getD undef = u := by rw [<- Array.getD_eq_getD_getElem?]; exact ha.2.2 t u hu
   unfold results
   rw [e1]
   simp [e2]
  rcases he with rfl | rfl
  ·exact ⟨ha.2.1,u,hres,hR⟩
  ·exact ⟨ha.2.1,u,hres,hR⟩
variable {St : Nat -> Nat -> Prop} {mt : Int -> List UInt8}
def Round (P : Program) (nt : Nat) (bx : List Nat) (mt : Int -> List UInt8) (e : TypeId) (es : Nat) (body : LC) (n : Nat) (cs : List V) (k : Int) : Prop :=
 ∀ (St : Nat -> Nat -> Prop) (w0 : World) (bs : List Nat) (g cap j : Nat) (w : World) (T : TS),bs.Nodup -> (∀ g ∈ bs,g < w0.heap.size) -> j < n -> Inv P St mt e n cs k (.slice (some ⟨g,0,none⟩) n cap) bs w0 (j * es) w -> T 0 = some (.slice (some ⟨g,0,none⟩) n cap) -> T 1 = some (.int .i64 (k + DX cs (j * es))) -> T 5 = some (.int .i64 j) ->
  MS P nt bx body T w (fun e' T' w' => e' = .normal ∧ T' 0 = some (.slice (some ⟨g,0,none⟩) n cap) ∧ T' 1 = some (.int .i64 (k + DX cs (j * es + es))) ∧ T' 5 = some (.int .i64 j) ∧ Inv P St mt e n cs k (.slice (some ⟨g,0,none⟩) n cap) bs w0 (j * es + es) w')
theorem Jm (htb : JY P tb) {f : FuncId} {ty it bt e : TypeId} {es eb r : Nat} {ez : List V} {body : LC} (hl : Lit P f nt bx [.tmp 4] (jQ ty it bt body r)) (hnt : 2 <= nt) (ht : tb ty = some (.sl e es eb ez)) {n : Nat} {cs : List V} {k : Int} (hcs : cs.length = n * es) (hr4 : r ≠ 4)
  (hbody : Round P nt bx mt e es body n cs k) : Hs P f (.own e n cs) k (.own e n (I1 mt cs k)) (k + BA cs) := by
 obtain ⟨⟨fn,c,h1,h2,h3,h4,h5,h6,h7⟩,h8,h9⟩ := hl
 refine ⟨⟨fn,h1,by rw [h2]; rfl,h3⟩,fun w0 St v bs hO hnd hbs => ?_⟩
 have hnl : n <= lim := hO.1
 obtain ⟨A,cap,hv⟩ : ∃ A cap,v = .slice A n cap := by
  obtain ⟨_,xs,bs',hx,_⟩ := hO
  rcases hx.2 with ⟨h1,h0⟩ | ⟨g,cap,cur,h1,_⟩
  ·exact ⟨none,0,by rw [h1,h0]⟩
  ·exact ⟨_,_,h1⟩
 have hA : 0 < n -> ∃ g,A = some ⟨g,0,none⟩ := by
  intro hp
  obtain ⟨_,xs,bs',hx,_⟩ := hO
  rcases hx.2 with ⟨h1,h0⟩ | ⟨g,cap,cur,h1,_⟩
  ·omega
  ·rw [hv] at h1; injection h1 with h1; exact ⟨g,h1⟩
 refine Nh (rs := []) (vs := [v,.int .i64 k]) ⟨⟨fn,c,h1,h2,h3,h4,h5,h6,h7⟩,h8,h9⟩ hnt ?_
 subst hv
 refine Ch (BX (Oq (BW ?_)))
 refine Ch (Ch (BX (Oq (BW ?_))))
 refine bN (dH (fun m T w => ∃ j,j <= n ∧ m = n - j ∧ T 0 = some (.slice A n cap) ∧ T 1 = some (.int .i64 (k + DX cs (j * es))) ∧ T 5 = some (.int .i64 j) ∧ Inv P St mt e n cs k (.slice A n cap) bs w0 (j * es) w) n ⟨0,by omega,by omega,rfl,?_,rfl,by rw [Nat.zero_mul]; exact Inv.start hO⟩ ?_)
 ·rw [Nat.zero_mul,Xb]; simp; rfl
 rintro m T w ⟨j,hj,rfl,t0,t1,t5,hI⟩
 refine Ch (Ch (BX (AI t5 (AI t0 (jX htb ht rfl (oc rfl rfl (BW ?_)))))))
 refine dF (b := decide ((j : Int) < (n : Int))) rfl (fun hd => ?_) (fun hd => ?_)
 ·have hjn : j < n := by simp at hd; omega
  obtain ⟨g,rfl⟩ := hA (by omega)
  refine dJ ?_
  refine Ch (bN (dI (hbody St w0 bs g cap j w _ hnd hbs hjn hI t0 t1 t5) ?_))
  rintro e' T' w' ⟨rfl,t0',t1',t5',hI'⟩
  refine BX (AI t5' (OJ rfl (by omega) (by unfold lim at hnl; omega) (EJ rfl (BW ?_))))
  refine ⟨n - (j + 1),by omega,j + 1,by omega,rfl,t0',?_,?_,?_⟩
  ·rw [Nat.succ_mul]; exact t1'
  ·exact congrArg some (congrArg (Value.int .i64) (by simp))
  ·rw [Nat.succ_mul]; exact hI'
 ·have hjn : j = n := by simp at hd; omega
  subst hjn
  refine dG ?_
  simp only [eX,WX,if_true]
  refine Ch (BX (AI t1 (EJ (upd_same _ _ _) (BW ?_))))
  refine Tk ?_
  refine ⟨.inl rfl,_,rfl,?_,hI.done (by rw [hcs]; exact Nat.le_refl _)⟩
  rw [Zv cs _ (by rw [hcs]; exact Nat.le_refl _)]
end
end Go.Proofs.YtpcbnmcfplioeaaGreat
namespace Go.Proofs.YtpcbnmcfplioeaaGreat
open Go.RowKit
set_option linter.unusedVariables false
section
variable {P : Program} {St : Nat -> Nat -> Prop} {mt : Int -> List UInt8} {e : TypeId} {n : Nat} {cs : List V} {k : Int} {bs : List Nat} {w0 w : World} {p g cap : Nat}
theorem G2 {α : Type} {f : α -> List V} {es : Nat} (hf : ∀ x,(f x).length = es) {l : List α} {j : Nat} (hj : j < l.length) {m : Nat} (hm : m < es) : (l.flatMap f)[j * es + m]? = (f l[j])[m]? := by
 have h := (Xr hf (List.getElem?_eq_getElem hj) m).resolve_right (by omega)
 have e1 : (l.flatMap f)[j * es + m]? = ((l.flatMap f).drop (j * es + m))[0]? := by rw [List.getElem?_drop,Nat.add_zero]
 have e2 : (f l[j])[m]? = ((f l[j]).drop m)[0]? := by rw [List.getElem?_drop,Nat.add_zero]
 rw [e1,e2,h,List.getElem?_append_left (by rw [List.length_drop,hf]; omega)]
theorem Dc {α : Type} {f : α -> List V} (h : ∀ x,AX (f x) = true) : ∀ l : List α,AX (l.flatMap f) = true
 | [] => rfl
 | x :: l => by rw [List.flatMap_cons,Jv,h x,Dc h l]; rfl
theorem YH {g g' n cap cap' : Nat} (h : Value.slice (some ⟨g,0,none⟩) n cap = .slice (some ⟨g',0,none⟩) n cap') : g' = g := by
 injection h with h1; injection h1 with h1; injection h1 with h1; exact h1.symm
theorem Inv.int' {kd : IntKind} {x : Int} (h : Inv P St mt e n cs k (.slice (some ⟨g,0,none⟩) n cap) bs w0 p w) (hd : AX cs = true) (hn : bs.Nodup) (hp : cs[p]? = some (.int kd x)) :
  ∃ u,w.cell? ⟨g,p,none⟩ = some u ∧ w.frozen? ⟨g,p,none⟩ = false ∧ Inv P St mt e n cs k (.slice (some ⟨g,0,none⟩) n cap) bs w0 (p + 1) (w.setCell ⟨g,p,none⟩ (.int kd (k + DX cs p))) := by
 obtain ⟨g',cap',e1,⟨u,h1⟩,h2,h3⟩ := h.int hd hn hp
 obtain rfl := YH e1
 exact ⟨u,h1,h2,h3⟩
theorem Inv.str' {x : List UInt8} (h : Inv P St mt e n cs k (.slice (some ⟨g,0,none⟩) n cap) bs w0 p w) (hd : AX cs = true) (hn : bs.Nodup) (hp : cs[p]? = some (.str x)) (hm : (mt (k + DX cs p)).length <= maxLen) :
  ∃ u,w.cell? ⟨g,p,none⟩ = some u ∧ w.frozen? ⟨g,p,none⟩ = false ∧ Inv P St mt e n cs k (.slice (some ⟨g,0,none⟩) n cap) bs w0 (p + 1) (w.setCell ⟨g,p,none⟩ (.string ⟨(mt (k + DX cs p)).toArray⟩)) := by
 obtain ⟨g',cap',e1,⟨u,h1⟩,h2,h3⟩ := h.str hd hn hp hm
 obtain rfl := YH e1
 exact ⟨u,h1,h2,h3⟩
theorem Inv.own' {e' : TypeId} {m : Nat} {ds : List V} {f : FuncId} (h : Inv P St mt e n cs k (.slice (some ⟨g,0,none⟩) n cap) bs w0 p w) (hd : AX cs = true) (hn : bs.Nodup) (hbs : ∀ g ∈ bs,g < w0.heap.size) (hp : cs[p]? = some (.own e' m ds))
  (hm : Hs P f (.own e' m ds) (k + DX cs p) (.own e' m (I1 mt ds (k + DX cs p))) (k + DX cs p + BA ds)) :
  ∃ u,w.cell? ⟨g,p,none⟩ = some u ∧ Calls P f #[u,.int .i64 (k + DX cs p)] w (fun e' w' => e' = .returned (.int .i64 (k + DX cs (p + 1))) ∧ Inv P St mt e n cs k (.slice (some ⟨g,0,none⟩) n cap) bs w0 (p + 1) w') := by
 obtain ⟨g',cap',u,e1,h1,_,h2⟩ := h.own hd hn hbs hp hm
 obtain rfl := YH e1
 refine ⟨u,h1,?_⟩
 rw [Xa hp]
 have e2 : k + ((DX cs p + Rc (V.own e' m ds) : Nat) : Int) = k + DX cs p + BA ds := by rw [Rc]; omega
 rw [e2]
 exact h2
theorem PN {c : V} (hp : cs[p]? = some c) (hc : Rc c = 1) : k + (DX cs p : Int) + 1 = k + DX cs (p + 1) := by rw [Xa hp,hc]; omega
theorem I4 {c : V} {B : Int} (hp : cs[p]? = some c) (h : k + BA cs <= B) : k + (DX cs p : Int) + Rc c <= B := by
 have h1 := Xa hp
 have h2 := cI cs (p + 1)
 omega
theorem I5 (h0 : 0 <= k) : 0 <= k + (DX cs p : Int) := by omega
theorem Uw : ∀ (a b : List V) (k : Int),mkA mt (a ++ b) k = mkA mt a k ++ mkA mt b (k + G4 a)
 | [],b,k => by simp [mkA,G4]
 | c :: a,b,k => by
  cases c <;> (simp only [List.cons_append,mkA,G4,Uw a b,List.cons.injEq,true_and]; try (congr 2; omega))
theorem Ni : ∀ (a b : List V),G4 (a ++ b) = G4 a + G4 b
 | [],b => by simp [G4]
 | c :: a,b => by cases c <;> (simp only [List.cons_append,G4,Ni a b]; try omega)
theorem PQ : ∀ (cs : List V) (k : Int),AX cs = true -> AX (mkA mt cs k) = true
 | [],_,_ => rfl
 | c :: cs,k,h => by
  have hd : deep c = true ∧ AX cs = true := by simpa [AX] using h
  cases c <;> first | (simp only [mkA,AX,hd.1,PQ cs _ hd.2,Bool.and_self]; done) | skip
  ·rename_i e n ds
   have h2 : AX ds = true := hd.1
   simp only [mkA,AX,deep,Me ds k h2,PQ cs _ hd.2,Bool.and_self]
theorem aA {A D C : List V} {us : List Value} (h : Ay P w St (A ++ (D ++ C)) us bs) (hdA : AX A = true) (hdC : AX C = true) (hn : bs.Nodup) :
  ∃ u1 ud u2 b1,us = u1 ++ (ud ++ u2) ∧ u1.length = A.length ∧ ud.length = D.length ∧ Ay P w St D ud b1 ∧ b1.Nodup ∧ (∀ x ∈ b1,x ∈ bs) ∧
   (∀ w' D',Ay P w' St D' ud b1 -> (∀ x ∈ bs,x ∉ b1 -> w'.heap[x]? = w.heap[x]?) -> Ay P w' St (A ++ (D' ++ C)) us bs) := by
 obtain ⟨u1,u3,q1,q2,eu,eb,r1,r2⟩ := h.app
 obtain ⟨ud,u2,b1,b2,eu2,eb2,r3,r4⟩ := r2.app
 have hnd := hn
 rw [eb,eb2] at hnd
 have hq := List.nodup_append.1 hnd
 have hq2 := List.nodup_append.1 hq.2.1
 refine ⟨u1,ud,u2,b1,by rw [eu,eu2],r1.length,r3.length,r3,hq2.1,fun x hx => by rw [eb,eb2]; simp [hx],fun w' D' h1 hw => ?_⟩
 have hin : ∀ x,x ∈ q1 ∨ x ∈ b2 -> w'.heap[x]? = w.heap[x]? := fun x hx => hw x (by rw [eb,eb2]; rcases hx with hx | hx <;> simp [hx]) (fun hm => by
  rcases hx with hx | hx
  ·exact hq.2.2 x hx x (by simp [hm]) rfl
  ·exact hq2.2.2 x hm x hx rfl)
 rw [eu,eu2,eb,eb2]
 exact Ay.join (Ay.kept _ hdA r1 (fun x hx => ⟨hin x (.inl hx),fun _ => Iff.rfl⟩)) (Ay.join h1 (Ay.kept _ hdC r4 (fun x hx => ⟨hin x (.inr hx),fun _ => Iff.rfl⟩)))
def Q1 (P : Program) (St : Nat -> Nat -> Prop) (mt : Int -> List UInt8) (cs : List V) (k : Int) (us : List Value) (bs : List Nat) (w0 : World) (t : TypeId) (gb p : Nat) (w : World) : Prop :=
 Ay P w St (mkA mt (cs.take p) k ++ cs.drop p) us bs ∧ FrB bs w0 w ∧ w.heap[gb]? = some (.cells us.toArray t (0,0)) ∧ gb < w.heap.size ∧ w0.heap.size <= gb
variable {us : List Value} {t : TypeId} {gb : Nat}
theorem Q1.start (h : Ay P w0 St cs us bs) (hd : AX cs = true) (hbs : ∀ g ∈ bs,g < w0.heap.size) : Q1 P St mt cs k us bs w0 t w0.heap.size 0 (w0.alloc (.cells us.toArray t)) := by
 refine ⟨?_,FrB.below ⟨rfl,rfl,rfl,by simp,fun k hk => Below.heap_alloc _ _ _ hk⟩,alloc_heap_new _ _,by simp,Nat.le_refl _⟩
 simp only [List.take_zero,mkA,List.drop_zero,List.nil_append]
 exact Ay.kept cs hd h (fun g hg => ⟨Below.heap_alloc _ _ _ (hbs g hg),fun _ => Iff.rfl⟩)
theorem Q1.done (h : Q1 P St mt cs k us bs w0 t gb p w) (hp : cs.length <= p) : Ay P w St (mkA mt cs k) us bs ∧ FrB bs w0 w := by
 have := h.1
 rw [List.take_of_length_le hp,List.drop_of_length_le hp,List.append_nil] at this
 exact ⟨this,h.2.1⟩
theorem Q1.skip {c : V} (h : Q1 P St mt cs k us bs w0 t gb p w) (hp : cs[p]? = some c) (hc : ∀ k,mkA mt [c] k = [c]) : Q1 P St mt cs k us bs w0 t gb (p + 1) w := by
 obtain ⟨es,hk⟩ := Lm hp
 refine ⟨?_,h.2⟩
 have hd : cs.drop p = c :: cs.drop (p + 1) := by
  rw [List.getElem?_eq_getElem hk] at hp
  injection hp with hp
  rw [<- hp,<- List.drop_eq_getElem_cons hk]
 have := h.1
 rw [hd] at this
 rw [VW hp,Uw,hc,List.append_assoc,List.cons_append,List.nil_append]
 exact this
theorem Q1.part {m : Nat} (h : Q1 P St mt cs k us bs w0 t gb p w) (hd : AX cs = true) (hn : bs.Nodup) (hbs : ∀ g ∈ bs,g < w0.heap.size) (hm : p + m <= cs.length) :
  ∃ ud b1,ud.length = m ∧ (∀ (j : Nat) (u : Value),ud[j]? = some u -> w.cell? ⟨gb,p + j,none⟩ = some u) ∧ Ay P w St ((cs.drop p).take m) ud b1 ∧ b1.Nodup ∧ (∀ g ∈ b1,g < w.heap.size) ∧
   ∀ w',Ay P w' St (mkA mt ((cs.drop p).take m) (k + G4 (cs.take p))) ud b1 -> FrB b1 w w' -> Q1 P St mt cs k us bs w0 t gb (p + m) w' := by
 have hsp : cs.drop p = (cs.drop p).take m ++ cs.drop (p + m) := by rw [<- List.drop_drop,List.take_append_drop]
 have hdd : AX (cs.take p) = true ∧ AX (cs.drop (p + m)) = true := by
  have h1 := hd
  rw [<- List.take_append_drop p cs,Jv] at h1
  simp only [Bool.and_eq_true] at h1
  have h2 := h1.2
  rw [hsp,Jv] at h2
  simp only [Bool.and_eq_true] at h2
  exact ⟨h1.1,h2.2⟩
 have h0 := h.1
 rw [hsp] at h0
 obtain ⟨u1,ud,u2,b1,eu,l1,l2,r,nd,sub,back⟩ := aA h0 (PQ _ _ hdd.1) hdd.2 hn
 have hla : (mkA mt (cs.take p) k).length = p := by
  have : ∀ (a : List V) (k : Int),(mkA mt a k).length = a.length := by
   intro a
   induction a with
   | nil => intro k; rfl
   | cons c a ih => intro k; cases c <;> simp [mkA,ih]
  rw [this,List.length_take]; omega
 have hlt : ∀ g ∈ bs,g < w.heap.size := fun g hg => Nat.lt_of_lt_of_le (hbs g hg) h.2.1.size
 refine ⟨ud,b1,by rw [l2,List.length_take,List.length_drop]; omega,fun j u hu => ?_,r,nd,fun g hg => hlt g (sub g hg),fun w' h1 hf => ?_⟩
 ·have hj : j < ud.length := by
   rcases Nat.lt_or_ge j ud.length with h | h
   ·exact h
   ·rw [List.getElem?_eq_none h] at hu; cases hu
  simp only [World.cell?,h.2.2.1]
  have : us[p + j]? = some u := by
   rw [eu,List.getElem?_append_right (by omega),l1,hla,Nat.add_sub_cancel_left,List.getElem?_append_left hj]; exact hu
  simpa using this
 ·have hgb : gb ∉ bs := fun hm => by have := hbs gb hm; have := h.2.2.2.2; omega
  refine ⟨?_,h.2.1.trans (hf.more sub),?_,Nat.lt_of_lt_of_le h.2.2.2.1 hf.size,h.2.2.2.2⟩
  ·have ht : cs.take (p + m) = cs.take p ++ (cs.drop p).take m := List.take_add
   rw [ht,Uw,List.append_assoc]
   exact back w' _ h1 (fun x hx hnx => hf.block x (hlt x hx) hnx)
  ·rw [hf.block gb h.2.2.2.1 (fun hm => hgb (sub gb hm))]; exact h.2.2.1
theorem Q1.own {e' : TypeId} {m : Nat} {ds : List V} {f : FuncId} (h : Q1 P St mt cs k us bs w0 t gb p w) (hd : AX cs = true) (hn : bs.Nodup) (hbs : ∀ g ∈ bs,g < w0.heap.size) (hp : cs[p]? = some (.own e' m ds))
  (hm : Hs P f (.own e' m ds) (k + G4 (cs.take p)) (.own e' m (I1 mt ds (k + G4 (cs.take p)))) (k + G4 (cs.take p) + BA ds)) :
  ∃ u,w.cell? ⟨gb,p,none⟩ = some u ∧ Calls P f #[u,.int .i64 (k + G4 (cs.take p))] w (fun e' w' => e' = .returned (.int .i64 (k + G4 (cs.take (p + 1)))) ∧ Q1 P St mt cs k us bs w0 t gb (p + 1) w') := by
 obtain ⟨_,hk⟩ := Lm hp
 obtain ⟨ud,b1,l,hc,r,nd,hlt,back⟩ := h.part (m := 1) hd hn hbs (by omega)
 have hds : (cs.drop p).take 1 = [.own e' m ds] := by
  have := hp
  rw [List.getElem?_eq_getElem hk] at this
  injection this with this
  rw [List.drop_eq_getElem_cons hk,this]; rfl
 rw [hds] at r back
 obtain ⟨u,us',q1,q2,e1,e2,hcl,ho,hr⟩ := r
 obtain ⟨rfl,rfl⟩ := hr
 subst e1 e2
 rw [List.append_nil] at nd hlt back
 refine ⟨u,by simpa using hc 0 u rfl,(hm.2 w St u q1 ho nd hlt).mono ?_⟩
 rintro e'' w' ⟨h1,h2,h3⟩
 refine ⟨?_,back w' ⟨u,[],q1,[],rfl,by simp,rfl,h2,rfl,rfl⟩ h3⟩
 rw [h1,VW hp,Ni]
 congr 2
 simp only [G4]; omega
theorem Q1.agg {m : Nat} {ds : List V} {f : FuncId} (h : Q1 P St mt cs k us bs w0 t gb p w) (hd : AX cs = true) (hn : bs.Nodup) (hbs : ∀ g ∈ bs,g < w0.heap.size) (hpm : p + m <= cs.length) (hds : (cs.drop p).take m = ds)
  (hm : Hs P f (.agg ds) (k + G4 (cs.take p)) (.agg (mkA mt ds (k + G4 (cs.take p)))) (k + G4 (cs.take p) + G4 ds)) :
  ∃ ud : List Value,ud.length = m ∧ (∀ (j : Nat) (u : Value),ud[j]? = some u -> w.cell? ⟨gb,p + j,none⟩ = some u) ∧ Calls P f #[.agg ud.toArray,.int .i64 (k + G4 (cs.take p))] w (fun e' w' => e' = .returned (.int .i64 (k + G4 (cs.take (p + m)))) ∧ Q1 P St mt cs k us bs w0 t gb (p + m) w') := by
 obtain ⟨ud,b1,l,hc,r,nd,hlt,back⟩ := h.part (m := m) hd hn hbs hpm
 rw [hds] at r back
 refine ⟨ud,l,hc,(hm.2 w St _ b1 ⟨ud,rfl,r⟩ nd hlt).mono ?_⟩
 rintro e'' w' ⟨h1,⟨us',eu,h2⟩,h3⟩
 have eu' : us' = ud := by
  have h5 := congrArg Array.toList (Value.agg.inj eu)
  simpa using h5.symm
 subst eu'
 refine ⟨?_,back w' h2 h3⟩
 have ht : cs.take (p + m) = cs.take p ++ (cs.drop p).take m := List.take_add
 rw [h1,ht,Ni,hds]
 congr 2
 omega
end
end Go.Proofs.YtpcbnmcfplioeaaGreat
namespace Go.Proofs.YtpcbnmcfplioeaaGreat
open Go.RowKit
set_option linter.unusedVariables false
def mB : Int := 9223372036854775000
def mkL {α : Type} (cnt : α -> Nat) (mk : α -> Int -> α) : List α -> Int -> List α
 | [],_ => []
 | x :: l,k => mk x k :: mkL cnt mk l (k + (cnt x : Int))
def La {α : Type} (cnt : α -> Nat) : List α -> Nat
 | [] => 0
 | x :: l => cnt x + La cnt l
theorem Jo {α : Type} {cnt : α -> Nat} {mk : α -> Int -> α} : ∀ (l : List α) (k : Int),(mkL cnt mk l k).length = l.length
 | [],_ => rfl
 | x :: l,k => by rw [mkL,List.length_cons,List.length_cons,Jo l]
section
variable {mt : Int -> List UInt8}
theorem NA {α : Type} {f : α -> List V} {cnt : α -> Nat} {mk : α -> Int -> α} (h1 : ∀ x k,I1 mt (f x) k = f (mk x k)) (h2 : ∀ x,BA (f x) = cnt x) : ∀ (l : List α) (k : Int),I1 mt (l.flatMap f) k = (mkL cnt mk l k).flatMap f
 | [],_ => rfl
 | x :: l,k => by rw [List.flatMap_cons,Sc,h1,h2,NA h1 h2 l,mkL,List.flatMap_cons]
theorem KD {α : Type} {f : α -> List V} {cnt : α -> Nat} (h2 : ∀ x,BA (f x) = cnt x) : ∀ (l : List α),BA (l.flatMap f) = La cnt l
 | [] => rfl
 | x :: l => by rw [List.flatMap_cons,Nj,h2,KD h2 l,La]
theorem NB {α : Type} {f : α -> List V} {cnt : α -> Nat} {mk : α -> Int -> α} {e : TypeId} (h1 : ∀ x k,I1 mt (f x) k = f (mk x k)) (h2 : ∀ x,BA (f x) = cnt x) (l : List α) (k : Int) : mkV mt (.own e l.length (l.flatMap f)) k = .own e (mkL cnt mk l k).length ((mkL cnt mk l k).flatMap f) := by
 rw [mkV,NA h1 h2,Jo]
theorem F8 {α : Type} {f : α -> List V} {cnt : α -> Nat} {e : TypeId} {n : Nat} (h2 : ∀ x,BA (f x) = cnt x) (l : List α) : Rc (.own e n (l.flatMap f)) = La cnt l := by rw [Rc,KD h2]
theorem mkc {c c' : V} {cs cs' : List V} {k : Int} {n : Nat} (h1 : mkV mt c k = c') (hn : Rc c = n) (h2 : I1 mt cs (k + (n : Int)) = cs') : I1 mt (c :: cs) k = c' :: cs' := by rw [I1,h1,hn,h2]
theorem T6 {c : V} {cs : List V} {n m : Nat} (hn : Rc c = n) (h2 : BA cs = m) : BA (c :: cs) = n + m := by rw [BA,hn,h2]
theorem mka {c : V} {cs cs' : List V} {k : Int} (h1 : ∀ r k,mkA mt (c :: r) k = c :: mkA mt r k) (h2 : mkA mt cs k = cs') : mkA mt (c :: cs) k = c :: cs' := by rw [h1,h2]
theorem jW {α : Type} {f : α -> List V} {cnt : α -> Nat} {mk : α -> Int -> α} {e : TypeId} (h1 : ∀ x k,I1 mt (f x) k = f (mk x k)) (h2 : ∀ x,BA (f x) = cnt x) (l : List α) {cs cs' : List V} {k : Int} (h3 : mkA mt cs (k + (La cnt l : Int)) = cs') :
  mkA mt (.own e l.length (l.flatMap f) :: cs) k = .own e (mkL cnt mk l k).length ((mkL cnt mk l k).flatMap f) :: cs' := by rw [mkA,NA h1 h2,KD h2,Jo,h3]
theorem mh {c : V} {cs : List V} {m : Nat} (h1 : ∀ r,G4 (c :: r) = G4 r) (h2 : G4 cs = m) : G4 (c :: cs) = m := by rw [h1,h2]
theorem Xc {α : Type} {f : α -> List V} {cnt : α -> Nat} {e : TypeId} {n : Nat} (h2 : ∀ x,BA (f x) = cnt x) (l : List α) {cs : List V} {m : Nat} (h3 : G4 cs = m) : G4 (.own e n (l.flatMap f) :: cs) = La cnt l + m := by rw [G4,KD h2,h3]
theorem dpc {c : V} {cs : List V} (h1 : deep c = true) (h2 : AX cs = true) : AX (c :: cs) = true := by rw [AX,h1,h2]; rfl
theorem dpo {α : Type} {f : α -> List V} (h : ∀ x,AX (f x) = true) {e : TypeId} {n : Nat} (l : List α) : deep (.own e n (l.flatMap f)) = true := Dc h l
theorem lD {k : Int} {n : Nat} (h : n = 0) : (some (Value.int .i64 k)) = some (.int .i64 (k + (n : Int))) := by subst h; simp
theorem W8 {cs : List V} (p m : Nat) : G4 (cs.take p) + G4 ((cs.drop p).take m) <= G4 cs := by
 have h1 := Ni (cs.take p) (cs.drop p)
 rw [List.take_append_drop] at h1
 have h2 := Ni ((cs.drop p).take m) ((cs.drop p).drop m)
 rw [List.take_append_drop] at h2
 omega
theorem Rv {cs : List V} {k B : Int} {p : Nat} {e : TypeId} {n : Nat} {ds : List V} (hp : cs[p]? = some (.own e n ds)) (h : k + G4 cs <= B) : k + (G4 (cs.take p) : Int) + BA ds <= B := by
 have h1 := W8 (cs := cs) p 1
 obtain ⟨_,hk⟩ := Lm hp
 have h2 : (cs.drop p).take 1 = [.own e n ds] := by
  rw [List.getElem?_eq_getElem hk] at hp
  injection hp with hp
  rw [List.drop_eq_getElem_cons hk,hp]; rfl
 rw [h2] at h1
 simp only [G4] at h1
 omega
theorem Rw {cs ds : List V} {k B : Int} {p m : Nat} (hp : (cs.drop p).take m = ds) (h : k + G4 cs <= B) : k + (G4 (cs.take p) : Int) + G4 ds <= B := by
 have h1 := W8 (cs := cs) p m
 rw [hp] at h1
 omega
end
section
variable {P : Program} {nt : Nat} {bx : List Nat} {T : TS}
theorem args1 {s : Nat} {u : Value} (hs : T s = some u) : ∀ a,Has T nt a -> (#[Operand.tmp s].map a.eval) = #[u] := fun a ha => by simp [H3 ha hs]
theorem args2 {s t : Nat} {u v : Value} (hs : T s = some u) (ht : T t = some v) : ∀ a,Has T nt a -> (#[Operand.tmp s,Operand.tmp t].map a.eval) = #[u,v] := fun a ha => by simp [H3 ha hs,H3 ha ht]
theorem G9 {f : FuncId} {rs : List ResultVar} {l : LC} (hl : Lit P f nt bx rs l) : Km P f := by
 obtain ⟨⟨fn,c,h1,h2,h3,_⟩,_⟩ := hl
 exact ⟨fn,h1,by rw [h2]; rfl,h3⟩
theorem YY {f : FuncId} {k : Int} {r : List UInt8} (hs : Ai P f [.int .i64 k] (.str r)) (w : World) : Calls P f #[.int .i64 k] w (fun e w' => e = .returned (.string ⟨r.toArray⟩) ∧ Below w.heap.size w w') := by
 refine (hs.2 w (fun _ _ => False) [.int .i64 k] (fun _ _ h => h.elim) ⟨_,_,rfl,rfl,rfl⟩).mono ?_
 rintro e w' ⟨v,bs,St',rfl,hb,_,_,ho,_⟩
 exact ⟨congrArg Ending.returned ho.2.1,hb⟩
end
end Go.Proofs.YtpcbnmcfplioeaaGreat
namespace Go.Proofs.YtpcbnmcfplioeaaGreat
open Go.RowKit
set_option linter.unusedVariables false
def sfL (s : Nat) : List (Nat × V) -> Prop
 | [] => True
 | (q,c) :: L => (q = s ∨ LZ c = true) ∧ sfL s L
theorem sfn {s : Nat} : sfL s [] := trivial
theorem sfc {s q : Nat} {c : V} {L : List (Nat × V)} (h : LZ c = true) (k : sfL s L) : sfL s ((q,c) :: L) := ⟨.inr h,k⟩
theorem sfs {s : Nat} {c : V} {L : List (Nat × V)} (k : sfL s L) : sfL s ((s,c) :: L) := ⟨.inl rfl,k⟩
theorem YG {s : Nat} : ∀ {L : List (Nat × V)},sfL s L -> ∀ q,q ≠ s -> LZ (ofL L q) = true
 | [],_,q,_ => rfl
 | (r,c) :: L,⟨h1,h2⟩,q,hq => by
  by_cases e : q = r
  ·subst e
   rw [show ofL ((q,c) :: L) q = c from by simp [ofL,upd_same]]
   rcases h1 with h1 | h1
   ·exact absurd h1 hq
   ·exact h1
  ·rw [show ofL ((r,c) :: L) q = ofL L q from by simp [ofL,upd_ne _ _ e]]
   exact YG h2 q hq
theorem scn : ([] : List V).all Lz = true := rfl
theorem scc {c : V} {cs : List V} (h : Lz c = true) (k : cs.all Lz = true) : (c :: cs).all Lz = true := by rw [List.all_cons,h,k]; rfl
theorem sco {α : Type} {f : α -> List V} (h : ∀ x,AX (f x) = true) {e : TypeId} {n : Nat} (l : List α) : Lz (.own e n (l.flatMap f)) = true := by
 unfold Lz; rw [L4]; exact sdL (Dc h l)
theorem SU : ∀ {a b : List V},E8 (a ++ b) = (E8 a && E8 b)
 | [],b => by simp [E8]
 | c :: a,b => by rw [List.cons_append,E8,E8,SU (a := a),Bool.and_assoc]
theorem PC {α : Type} {f : α -> List V} (h : ∀ x,E8 (f x) = true) : ∀ l : List α,E8 (l.flatMap f) = true
 | [] => rfl
 | x :: l => by rw [List.flatMap_cons,SU,h x,PC h l]; rfl
theorem sca {α : Type} {f : α -> List V} (h : ∀ x,E8 (f x) = true) {n : Nat} (l : List α) : Lz (.arg n (l.flatMap f)) = true := by
 unfold Lz; rw [L4]; exact PC h l
theorem adc {c : V} {cs : List V} (h1 : LB c = true) (h2 : E8 cs = true) : E8 (c :: cs) = true := by rw [E8,h1,h2]; rfl
theorem ada {α : Type} {f : α -> List V} (h : ∀ x,E8 (f x) = true) {n : Nat} (l : List α) : LB (.arg n (l.flatMap f)) = true := PC h l
mutual
def upV : V -> V
 | .dat n cs => .arg n (upL cs)
 | .agg cs => .agg (upL cs)
 | .int k n => .int k n
 | .bool b => .bool b
 | .str s => .str s
 | _ => .undef
def upL : List V -> List V
 | [] => []
 | c :: cs => upV c :: upL cs
end
theorem fg {cs : List V} (h : cs = []) : upL cs = [] := by subst h; rfl
mutual
def plD : V -> Bool
 | .dat _ cs => WI cs
 | .int _ _ => true
 | .bool _ => true
 | .str _ => true
 | _ => false
def WI : List V -> Bool
 | [] => true
 | c :: cs => plD c && WI cs
end
section
variable {w : World}
mutual
theorem Rd.up : ∀ (c : V) {v : Value},plD c = true -> Rd w (StA w) c v -> Rd w (StA w) (upV c) v
 | .int _ _,_,_,h => h
 | .bool _,_,_,h => h
 | .str _,_,_,h => h
 | .dat _ cs,_,hp,⟨hn,A,c,e,hc,h,h0⟩ => ⟨hn,A,c,e,hc,fun hz => by
   obtain ⟨b,off,ea,hr⟩ := h hz
   refine ⟨b,off,ea,fun hne o => ?_,BK.up b off cs hp hr⟩
   cases cs with
   | nil => exact absurd rfl hne
   | cons c cs => exact hr.1.1,fun hz => fg (h0 hz)⟩
 | .own _ _ _,_,hp,_ => by cases hp
 | .arg _ _,_,hp,_ => by cases hp
 | .pin _ _ _,_,hp,_ => by cases hp
 | .agg _,_,hp,_ => by cases hp
 | .tup _,_,hp,_ => by cases hp
 | .box _,_,hp,_ => by cases hp
 | .uni _ _ _,_,hp,_ => by cases hp
 | .same _,_,hp,_ => by cases hp
 | .cref _ _,_,hp,_ => by cases hp
 | .adr _ _,_,hp,_ => by cases hp
 | .gh _ _,_,hp,_ => by cases hp
 | .undef,_,hp,_ => by cases hp
theorem BK.up (b : Nat) : ∀ (off : Nat) (cs : List V),WI cs = true -> BK w (StA w) b off cs -> BK w (StA w) b off (upL cs)
 | _,[],_,_ => trivial
 | off,c :: cs,hp,⟨⟨h1,u,hu,hr⟩,h2⟩ => by
  have hp' : plD c = true ∧ WI cs = true := by simpa [WI] using hp
  exact ⟨⟨h1,u,hu,Rd.up c hp'.1 hr⟩,BK.up b (off + 1) cs hp'.2 h2⟩
end
theorem RdL.up : ∀ (cs : List V) {us : List Value},WI cs = true -> RdL w (StA w) cs us -> RdL w (StA w) (upL cs) us
 | [],_,_,h => h
 | c :: cs,_,hp,⟨u,us',e,h1,h2⟩ => by
  have hp' : plD c = true ∧ WI cs = true := by simpa [WI] using hp
  exact ⟨u,us',e,Rd.up c hp'.1 h1,RdL.up cs hp'.2 h2⟩
end
def Ups (d a : List V) : Prop := upL d = a ∧ WI d = true
theorem upn : Ups [] [] := ⟨rfl,rfl⟩
theorem upc {c c' : V} {cs cs' : List V} (h1 : upV c = c' ∧ plD c = true) (h2 : Ups cs cs') : Ups (c :: cs) (c' :: cs') := ⟨by rw [upL,h1.1,h2.1],by rw [WI,h1.2,h2.2]; rfl⟩
theorem fi {a b a' b' : List V} (h1 : Ups a a') (h2 : Ups b b') : Ups (a ++ b) (a' ++ b') := by
 obtain ⟨rfl,p1⟩ := h1
 obtain ⟨rfl,p2⟩ := h2
 induction a with
 | nil => exact ⟨rfl,p2⟩
 | cons c a ih =>
  have hp : plD c = true ∧ WI a = true := by simpa [WI] using p1
  exact upc ⟨rfl,hp.1⟩ (ih hp.2)
theorem V1 {α : Type} {f g : α -> List V} (h : ∀ x,Ups (f x) (g x)) : ∀ l : List α,Ups (l.flatMap f) (l.flatMap g)
 | [] => upn
 | x :: l => by rw [List.flatMap_cons,List.flatMap_cons]; exact fi (h x) (V1 h l)
theorem VZ {α : Type} {f g : α -> List V} (h : ∀ x,Ups (f x) (g x)) (l : List α) : upV (.dat l.length (l.flatMap f)) = .arg l.length (l.flatMap g) ∧ plD (.dat l.length (l.flatMap f)) = true := by
 obtain ⟨h1,h2⟩ := V1 h l
 exact ⟨by rw [upV,h1],by rw [plD]; exact h2⟩
theorem PM (n : Int) : Ups (As n) (As n) := ⟨rfl,rfl⟩
theorem Yt {w : World} {d a : List V} {v : Value} (h : Ups d a) (hr : RdA w (StA w) (.agg d) v) : RdA w (StA w) (.agg a) v := by
 obtain ⟨us,e,hr⟩ := hr
 exact ⟨us,e,by rw [<- h.1]; exact hr.up _ h.2⟩
end Go.Proofs.YtpcbnmcfplioeaaGreat
