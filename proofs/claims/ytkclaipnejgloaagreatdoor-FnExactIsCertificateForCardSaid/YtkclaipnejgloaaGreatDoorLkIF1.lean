/-
 The leapfrog join of the program: its rows and steps are the reference's. On the printed functions; conditions: sizes.
-/
import Derived.Test.YtkclaipnejgloaaGreatDoorLiIF1
import Derived.Test.YtkclaipnejgloaaGreatDoorSoIF1
import Derived.Test.YtkclaipnejgloaaGreatDoorNrIF1
namespace Go.Proofs.YtkclaipnejgloaaGreatDoor
open Go.RowKit
set_option linter.unusedVariables false
set_option linter.unusedSimpArgs false
theorem wrap_add (a b : Int) : IntKind.i64.wrap (IntKind.i64.wrap a + b) = IntKind.i64.wrap (a + b):=by
 unfold IntKind.wrap
 simp only [IntKind.signed,IntKind.bits,Bool.true_and,decide_eq_true_eq,ge_iff_le]
 split <;> split <;> (try split) <;> omega
def KL {α : Type} (f : α -> Int) : List α -> Int
 | [] => 0
 | x :: l => f x + KL f l
theorem Tp {α : Type} (f : α -> Int) : ∀ a b : List α,KL f (a ++ b) = KL f a + KL f b
 | [],b => by simp [KL]
 | x :: a,b => by rw [List.cons_append,KL,KL,Tp f a b]; omega
theorem Q9 {α β : Type} (f : β -> Int) (g : α -> List β) : ∀ l : List α,KL f (l.flatMap g) = KL (fun x => KL f (g x)) l
 | [] => rfl
 | x :: l => by rw [List.flatMap_cons,Tp,KL,Q9 f g l]
theorem Tq {α β : Type} (f : β -> Int) (g : α -> β) : ∀ l : List α,KL f (l.map g) = KL (fun x => f (g x)) l
 | [] => rfl
 | x :: l => by rw [List.map_cons,KL,KL,Tq f g l]
theorem To {α : Type} (f g : α -> Int) : ∀ l : List α,KL (fun x => f x + g x) l = KL f l + KL g l
 | [] => rfl
 | x :: l => by rw [KL,KL,KL,To f g l]; omega
theorem Ra {α : Type} : ∀ l : List α,KL (fun _ => (0 : Int)) l = 0
 | [] => rfl
 | x :: l => by rw [KL,Ra l]; rfl
theorem NP {α : Type} (f g : α -> Int) (hfg : ∀ n v,IntKind.i64.wrap (n + f v) = IntKind.i64.wrap (n + g v)) : ∀ (l : List α) (a : Int),l.foldl (fun n v => IntKind.i64.wrap (n + f v)) (IntKind.i64.wrap a) = IntKind.i64.wrap (a + KL g l)
 | [],a => by rw [List.foldl_nil,KL]; congr 1; omega
 | x :: l,a => by
  rw [List.foldl_cons,hfg,wrap_add,NP f g hfg l,KL]
  congr 1; omega
section
variable {T : List Tri} {q : Qry} {o : List Int}
theorem kE {a : Atm} {pre : List Int} (ha : a.2.length <= lim) (hp : pre.length <= o.length) (ho : o.length <= 5) : Ah (Dl o pre a) fz (([] : List Int),0) = some (pfK a o pre pre.length):=by
 have hl : pre.length <= lim:=by unfold lim; omega
 have:=B8 (body:=Dl o pre a) (out:=pfK a o pre pre.length) (fun k => (pfK a o pre k,(k : Int))) pre.length (fun k hk rec => by
  have hpl:=QW a o pre k (by omega)
  have hd:=XL a o k
  have hJ : ∀ y,Ei rec (k : Int) y = rec (y,((k + 1 : Nat) : Int)):=fun y => by unfold Ei; rw [AF hk (Au hl)]
  unfold Dl
  simp only
  rw [Az hk,Ai hk,Ai (l:=o) (by omega),pfK,Gx (l:=o) (by omega),Gx hk]
  simp only [cond_true,Ad]
  rw [be ha]
  simp only [hJ]
  cases a.2.contains o[k] with
  | true => simp only [cond_true]; rw [Ar (by simp only [List.length_singleton]; unfold lim; omega)]
  | false => simp only [cond_false,List.append_nil]) (fun rec => by unfold Dl; simp only; rw [Ax]; rfl) fz (FZ hl)
 exact this
theorem bg (h : TriesOk T q o) {pre : List Int} (hk : pre.length < o.length) : GQ q T o pre = some (kyL T q o pre):=by
 have ho:=Ht h.ov
 have hqn:=LZ h.qv
 have hq4:=(Ob h.qv).2.2.1
 unfold GQ kyL
 have:=B8 (body:=Dk q T o pre) (out:=(ixK q (atI o (pre.length : Int)) q.2.1.length).map fun i => chB ((T[i]?).getD (0,[])) (pfK ((q.2.1[i]?).getD ([],[])) o pre pre.length)) (fun i => ((ixK q (atI o (pre.length : Int)) i).map fun i => chB ((T[i]?).getD (0,[])) (pfK ((q.2.1[i]?).getD ([],[])) o pre pre.length),(i : Int))) q.2.1.length (fun i hi rec => by
  have hxl:=PT q (atI o (pre.length : Int)) i
  have hal:=(h.sm.2.1 _ (List.getElem_mem hi)).2
  have hTl : i < T.length:=by rw [h.len]; exact hi
  have hT:=V8 h hi (k:=pre.length) (by omega)
  have hJ : ∀ y,Eh rec (i : Int) y = rec (y,((i + 1 : Nat) : Int)):=fun y => by unfold Eh; rw [AF hi (Au h.sm.1)]
  unfold Dk
  simp only
  rw [Az hi,Ai hi,Ai hk,bu,AN hi,List.map_append,Gx hk]
  simp only [cond_true,Ad]
  rw [be hal]
  simp only
  cases hc : q.2.1[i].2.contains o[pre.length] with
  | false =>
   simp only [Bool.not_false,cond_true,cond_false,List.map_nil,List.append_nil]
   exact hJ _
  | true =>
   simp only [Bool.not_true,cond_false,cond_true]
   rw [kE hal (by omega) (by omega)]
   simp only
   rw [Ai hTl]
   simp only
   rw [kw (by rw [QW _ _ _ _ (by omega)]; exact hT)]
   simp only
   rw [Ar (by rw [List.length_map]; simp only [List.length_singleton]; unfold lim; rw [Gx hk] at hxl; omega),hJ,List.map_cons,List.map_nil,List.getElem?_eq_getElem hTl,List.getElem?_eq_getElem hi]
   rfl) (fun rec => by unfold Dk; simp only; rw [Ax]; rfl) fz (FZ h.sm.1)
 have h2 : Ah (Dk q T o pre) fz (([] : List (List Int)),0) = some ((ixK q (atI o (pre.length : Int)) q.2.1.length).map fun i => chB ((T[i]?).getD (0,[])) (pfK ((q.2.1[i]?).getD ([],[])) o pre pre.length)):=this
 rw [h2]; rfl
def lvK (T : List Tri) (q : Qry) (o : List Int) : Nat -> List (List Int)
 | 0 => [[]]
 | k + 1 => (lvK T q o k).flatMap fun p => (ky T q o p).1.map fun v => p ++ [v]
def stK (T : List Tri) (q : Qry) (o : List Int) : Nat -> Int
 | 0 => 0
 | k + 1 => (lvK T q o k).foldl (fun n p => IntKind.i64.wrap (n + (ky T q o p).2)) (stK T q o k)
theorem ST : ∀ (k : Nat) (p : List Int),p ∈ lvK T q o k -> p.length = k
 | 0,p,h => by rw [lvK,List.mem_singleton] at h; subst h; rfl
 | k + 1,p,h => by
  rw [lvK] at h
  obtain ⟨p',hp',h2⟩:=List.mem_flatMap.1 h
  obtain ⟨v,_,rfl⟩:=List.mem_map.1 h2
  rw [List.length_append,ST k p' hp',List.length_singleton]
theorem PM {α β : Type} {f : α -> List β} {B : Nat} : ∀ (l : List α),(∀ x ∈ l,(f x).length <= B) -> (l.flatMap f).length <= l.length * B
 | [],_ => by simp
 | x :: l,h => by
  have h1:=h x (by simp)
  have h2:=PM l fun y hy => h y (by simp [hy])
  rw [List.flatMap_cons,List.length_append,List.length_cons,Nat.add_mul,Nat.one_mul]
  omega
theorem Ya (h : TriesOk T q o) (h16 : ∀ t ∈ T,t.2.length <= 16) : ∀ k,k <= o.length -> (lvK T q o k).length <= 16 ^ k
 | 0,_ => by rw [lvK]; simp
 | k + 1,hk => by
  have h1:=Ya h h16 k (by omega)
  rw [lvK,Nat.pow_succ]
  refine Nat.le_trans (PM _ fun p hp => ?_) (Nat.mul_le_mul_right 16 h1)
  rw [List.length_map]
  exact (Pe h h16 (by rw [ST k p hp]; omega)).1
theorem jz {k : Nat} (h : k <= 5) : 16 ^ k <= 1048576:=Nat.pow_le_pow_right (show 0 < 16 by decide) h
theorem Y7 (h : TriesOk T q o) (h16 : ∀ t ∈ T,t.2.length <= 16) {n : Nat} (hn : n <= o.length) : Bx q T o (n : Int) = some (lvK T q o n,stK T q o n,decide (((lvK T q o n).length : Int) <= 4000)):=by
 have ho:=Ht h.ov
 have hqn:=LZ h.qv
 unfold Bx
 have:=B8 (body:=AR q T o (n : Int)) (out:=(lvK T q o n,stK T q o n)) (fun k => (lvK T q o k,stK T q o k,(k : Int))) n (fun k hk rec => by
  have hlv:=Ya h h16 k (by omega)
  have h16k:=jz (show k <= 5 by omega)
  have hin:=B8 (body:=AS q T o (lvK T q o k)) (out:=(stK T q o (k + 1),lvK T q o (k + 1))) (fun j => (((lvK T q o k).take j).foldl (fun n p => IntKind.i64.wrap (n + (ky T q o p).2)) (stK T q o k),((lvK T q o k).take j).flatMap (fun p => (ky T q o p).1.map fun v => p ++ [v]),(j : Int))) (lvK T q o k).length (fun j hj rec => by
   have hpl : (lvK T q o k)[j].length = k:=ST k _ (List.getElem_mem hj)
   obtain ⟨k1,k2,k3⟩:=Pe h h16 (pre:=(lvK T q o k)[j]) (by omega)
   have hfew : (((lvK T q o k).take j).flatMap (fun p => (ky T q o p).1.map fun v => p ++ [v])).length <= 16777216:=by
    have:=PM (f:=fun p => (ky T q o p).1.map fun v => p ++ [v]) (B:=16) ((lvK T q o k).take j) (fun p hp => by
     rw [List.length_map]
     exact (Pe h h16 (by rw [ST k p (List.mem_of_mem_take hp)]; omega)).1)
    rw [List.length_take] at this
    omega
   generalize hacc : ((lvK T q o k).take j).flatMap (fun p => (ky T q o p).1.map fun v => p ++ [v]) = acc at hfew
   have hb3:=B8 (body:=AT (lvK T q o k)[j] (ky T q o (lvK T q o k)[j])) (out:=acc ++ (ky T q o (lvK T q o k)[j]).1.map fun v => (lvK T q o k)[j] ++ [v]) (fun i => (acc ++ ((ky T q o (lvK T q o k)[j]).1.take i).map (fun v => (lvK T q o k)[j] ++ [v]),(i : Int))) (ky T q o (lvK T q o k)[j]).1.length (fun i hi rec => by
    unfold AT
    simp only
    rw [Az hi,Ai hi]
    simp only [cond_true,Ad]
    rw [UN (by unfold lim; omega)]
    simp only
    rw [Ar (by simp only [List.length_singleton]; unfold lim; omega),Ar (by simp only [List.length_append,List.length_map,List.length_take,List.length_singleton]; unfold lim; omega),AF hi (by unfold maxLen; omega),List.take_succ_eq_append_getElem hi,List.map_append,List.append_assoc]
    rfl) (fun rec => by unfold AT; simp only; rw [Ax,List.take_length]; rfl) fz (by unfold fz; omega)
   unfold AS
   simp only
   rw [Az hj,Ai hj]
   simp only [cond_true,Ad]
   rw [bg h (by omega)]
   simp only
   rw [kB (WL h (by omega)).1]
   simp only
   rw [show lfB (kyL T q o (lvK T q o k)[j]) = ky T q o (lvK T q o k)[j] from rfl]
   rw [List.take_zero,List.map_nil,List.append_nil] at hb3
   have hb4 : Ah (AT (lvK T q o k)[j] (ky T q o (lvK T q o k)[j])) fz (acc,0) = some (acc ++ (ky T q o (lvK T q o k)[j]).1.map fun v => (lvK T q o k)[j] ++ [v]):=hb3
   rw [hb4]
   simp only
   rw [List.take_succ_eq_append_getElem hj,List.foldl_append,List.flatMap_append,hacc,List.flatMap_cons,List.flatMap_nil,List.append_nil,AF hj (by unfold maxLen; omega)]
   rfl) (fun rec => by unfold AS; simp only; rw [Ax,List.take_length]; rfl) fz (by unfold fz; omega)
  have hin2 : Ah (AS q T o (lvK T q o k)) fz (stK T q o k,([] : List (List Int)),0) = some (stK T q o (k + 1),lvK T q o (k + 1)):=hin
  unfold AR
  simp only
  rw [Az hk,hin2,AF hk (by unfold maxLen; omega)]
  rfl) (fun rec => by unfold AR; simp only; rw [Ax]; rfl) fz (by unfold fz; omega)
 have h2 : Ah (AR q T o (n : Int)) fz (([[]] : List (List Int)),0,0) = some (lvK T q o n,stK T q o n):=this
 rw [h2]
 rfl
theorem SB {α : Type} : ∀ l : List α,(l.flatMap fun p => [p]) = l
 | [] => rfl
 | x :: l => by rw [List.flatMap_cons,SB l]; rfl
theorem c6 : ∀ (k r : Nat),(lvK T q o k).flatMap (fun p => (wk T q o r p).1) = (wk T q o (k + r) []).1
 | 0,r => by rw [lvK,List.flatMap_cons,List.flatMap_nil,List.append_nil,Nat.zero_add]
 | k + 1,r => by
  rw [lvK,List.flatMap_assoc,show k + 1 + r = k + (r + 1) by omega,<- c6 k (r + 1)]
  congr 1
  funext p
  rw [List.flatMap_map]
  rfl
def tk (T : List Tri) (q : Qry) (o : List Int) : Nat -> List Int -> Int
 | 0,_ => 0
 | r + 1,pre => (ky T q o pre).2 + KL (fun v => tk T q o r (pre ++ [v])) (ky T q o pre).1
theorem gw (h : TriesOk T q o) {pre : List Int} (hk : pre.length < o.length) : IntKind.i64.wrap (ky T q o pre).2 = (ky T q o pre).2:=by
 have:=U4 (WL h hk).1
 have h1:=this.2.2.2
 exact wrap_in (by unfold ky; omega)
theorem eh (h : TriesOk T q o) : ∀ (r : Nat) (pre : List Int),pre.length + r = o.length -> (wk T q o r pre).2 = IntKind.i64.wrap (tk T q o r pre)
 | 0,pre,hr => rfl
 | r + 1,pre,hr => by
  have hlen : ∀ v : Int,(pre ++ [v]).length + r = o.length:=fun v => by rw [List.length_append,List.length_singleton]; omega
  have hw:=fun v => eh h r (pre ++ [v]) (hlen v)
  rw [wk,tk]
  simp only
  rw [<- NP (fun v => (wk T q o r (pre ++ [v])).2) (fun v => tk T q o r (pre ++ [v])) (fun n v => by rw [hw v,Int.add_comm,wrap_add,Int.add_comm]),gw h (by omega)]
def sK (T : List Tri) (q : Qry) (o : List Int) : Nat -> Int
 | 0 => 0
 | k + 1 => sK T q o k + KL (fun p => (ky T q o p).2) (lvK T q o k)
theorem j9 : ∀ k,stK T q o k = IntKind.i64.wrap (sK T q o k)
 | 0 => rfl
 | k + 1 => by
  rw [stK,j9 k,sK,NP _ (fun p => (ky T q o p).2) (fun n v => rfl)]
theorem j6 : ∀ (k r : Nat),sK T q o k + KL (fun p => tk T q o r p) (lvK T q o k) = tk T q o (k + r) []
 | 0,r => by rw [sK,lvK,KL,KL,Nat.zero_add]; omega
 | k + 1,r => by
  rw [show k + 1 + r = k + (r + 1) by omega,<- j6 k (r + 1),sK,lvK,Q9]
  have e : (fun p => tk T q o (r + 1) p) = fun p => (ky T q o p).2 + KL (fun v => tk T q o r (p ++ [v])) (ky T q o p).1:=by funext p; rw [tk]
  have e2 : (fun p => KL (fun p => tk T q o r p) ((ky T q o p).1.map fun v => p ++ [v])) = fun p => KL (fun v => tk T q o r (p ++ [v])) (ky T q o p).1:=by funext p; rw [Tq]
  rw [e,To,e2]
  omega
theorem c5 : lvK T q o o.length = (wk T q o o.length []).1:=by
 have:=c6 (T:=T) (q:=q) (o:=o) o.length 0
 rw [Nat.add_zero] at this
 rw [<- this]
 exact (SB _).symm
theorem d3 (h : TriesOk T q o) : stK T q o o.length = (wk T q o o.length []).2:=by
 have:=j6 (T:=T) (q:=q) (o:=o) o.length 0
 rw [Nat.add_zero] at this
 rw [j9,eh h o.length [] (by simp),<- this]
 have e : (fun p => tk T q o 0 p) = fun _ => (0 : Int):=by funext p; rw [tk]
 rw [e,Ra,Int.add_zero]
theorem Ug : ∀ (p a b : List Int),F8 (p ++ a) (p ++ b) = F8 a b
 | [],a,b => rfl
 | x :: p,a,b => by rw [List.cons_append,List.cons_append,F8,if_neg (by omega),if_neg (by omega)]; exact Ug p a b
theorem YA (h : TriesOk T q o) (h16 : ∀ t ∈ T,t.2.length <= 16) : ∀ (r : Nat) (pre : List Int),pre.length + r = o.length -> Srt (wk T q o r pre).1
 | 0,pre,hr => by rw [wk]; exact List.pairwise_singleton _ _
 | r + 1,pre,hr => by
  have hlen : ∀ v : Int,(pre ++ [v]).length + r = o.length:=fun v => by rw [List.length_append,List.length_singleton]; omega
  have hs:=fun v => YA h h16 r (pre ++ [v]) (hlen v)
  obtain ⟨k1,k2,k3⟩:=Pe h h16 (pre:=pre) (by omega)
  rw [wk]
  unfold Srt
  simp only
  rw [List.pairwise_flatMap]
  refine ⟨fun v _ => hs v,k2.imp fun {v v'} hv x hx y hy => ?_⟩
  have hx2:=((Ou h h16 r (pre ++ [v]) (hlen v)).2 x hx).2.1
  have hy2:=((Ou h h16 r (pre ++ [v']) (hlen v')).2 y hy).2.1
  have ex:=List.take_append_drop (pre ++ [v]).length x
  have ey:=List.take_append_drop (pre ++ [v']).length y
  rw [hx2] at ex
  rw [hy2] at ey
  rw [<- ex,<- ey,List.append_assoc,List.append_assoc,Ug]
  show F8 (v :: _) (v' :: _) < 0
  rw [F8,if_pos hv]
  omega
theorem YI {x : List Int} (h : ∀ e ∈ x,0 <= e ∧ e <= 99) : MV x = true:=by
 unfold MV
 rw [Ps fun i hi => by
  have:=h _ (List.getElem_mem hi)
  first
   | (rw [AN hi]; unfold btw; simp; omega)
   | (unfold btw; simp; omega)]
 rfl
theorem jq (h : TriesOk T q o) (h16 : ∀ t ∈ T,t.2.length <= 16) : nrB (o.length : Int) (wk T q o o.length []).1 = cond (decide (((wk T q o o.length []).1.length : Int) <= 4000)) (((o.length : Int),(wk T q o o.length []).1),true) ((0,[]),false):=by
 have ho:=Ht h.ov
 have hqn:=LZ h.qv
 obtain ⟨w1,w2⟩:=Ou h h16 o.length [] (by simp)
 have hs:=YA h h16 o.length [] (by simp)
 have hrow : ∀ x ∈ (wk T q o o.length []).1,x.length = o.length ∧ MV x = true:=fun x hx => ⟨(w2 x hx).1,YI ((w2 x hx).2.2 fun e he => by cases he)⟩
 have hsort : sortB (wk T q o o.length []).1 = (wk T q o o.length []).1:=(Oh hs fun z => Iff.rfl).symm
 unfold nrB
 rw [hsort,Ps fun i hi => by
  have:=hrow _ (List.getElem_mem hi)
  first
   | (unfold N7; rw [this.1,this.2]; simp)
   | (rw [AN hi]; unfold N7; rw [this.1,this.2]; simp)]
 rw [cond_false]
 have hrel : M5 ((o.length : Int),(wk T q o o.length []).1) = decide (((wk T q o o.length []).1.length : Int) <= 4000):=by
  rw [Bool.eq_iff_iff,ZQ,decide_eq_true_eq]
  constructor
  ·rintro ⟨_,h2,_⟩
   simp only at h2
   omega
  ·intro h2
   exact ⟨⟨by simp only; omega,by simp only; omega⟩,by simp only; omega,fun x hx => ⟨by rw [(hrow x hx).1],(hrow x hx).2⟩,hs⟩
 rw [hrel]
 cases decide (((wk T q o o.length []).1.length : Int) <= 4000) <;> rfl
end
theorem kx {T : List Tri} (hl : T.length <= lim) : GR T = some (emB T):=by
 unfold GR emB
 have:=Lz (B:=Fp T) (n:=T.length) (fun k => atB T k fun t => (t.2.length : Int) == 0) true hl (fun k hk rec => by
  unfold Fp
  rw [Az hk,Ai hk,AF hk (Au hl),AN hk]
  rfl) (fun rec => by unfold Fp; rw [Ax]; rfl)
 rw [this]
 have e : (List.range T.length).any (fun k => atB T k fun t => (t.2.length : Int) == 0) = Ay T fun _ t => (t.2.length : Int) == 0:=rfl
 rw [e]
 cases Ay T fun _ t => (t.2.length : Int) == 0 <;> rfl
section
variable {d : List Tbl} {q : Qry} {o : List Int}
theorem kC (h : Q7 d) (hq : smQ q) (ho : o.length <= lim) : Fj d q o = some (ljB d q o):=by
 unfold Fj ljB
 rw [Zd h hq ho]
 unfold Pn
 cases hf : Ik d q with
 | false => rfl
 | true =>
  cases hor : Ph q o with
  | false => rfl
  | true =>
   simp only [Bool.and_self,cond_true,Ad,Bool.not_true,cond_false]
   have hT:=Qq (d:=d) hq hf hor
   have ho2:=Ht hor
   rw [show q.2.1.map (Re d o) = trs d q o from rfl] at hT ⊢
   rw [kx (by rw [hT.len]; exact hq.1)]
   simp only
   rw [<- ho2.1]
   cases emB (trs d q o) with
   | true => rfl
   | false =>
    simp only [cond_false]
    rw [Y7 hT (Tr hf hor) (Nat.le_refl _)]
    simp only
    rw [c5,d3 hT,jq hT (Tr hf hor)]
    cases decide (((wk (trs d q o) q o o.length []).1.length : Int) <= 4000) <;> rfl
end
end Go.Proofs.YtkclaipnejgloaaGreatDoor
