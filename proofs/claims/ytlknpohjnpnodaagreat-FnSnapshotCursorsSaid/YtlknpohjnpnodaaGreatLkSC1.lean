/-
 The leapfrog join of the program: its rows and steps are the reference's. On the printed functions; conditions: sizes.
-/
import Derived.Test.YtlknpohjnpnodaaGreatLiSC1
import Derived.Test.YtlknpohjnpnodaaGreatSoSC1
import Derived.Test.YtlknpohjnpnodaaGreatNrSC1
namespace Go.Proofs.YtlknpohjnpnodaaGreat
open Go.RowKit
set_option linter.unusedVariables false
set_option linter.unusedSimpArgs false
theorem wrap_add (a b : Int) : IntKind.i64.wrap (IntKind.i64.wrap a + b) = IntKind.i64.wrap (a + b) := by
 unfold IntKind.wrap
 simp only [IntKind.signed, IntKind.bits, Bool.true_and, decide_eq_true_eq, ge_iff_le]
 split <;> split <;> (try split) <;> omega
def KV {α : Type} (f : α -> Int) : List α -> Int
 | [] => 0
 | x :: l => f x + KV f l
theorem S5 {α : Type} (f : α -> Int) : ∀ a b : List α, KV f (a ++ b) = KV f a + KV f b
 | [], b => by simp [KV]
 | x :: a, b => by rw [List.cons_append, KV, KV, S5 f a b]; omega
theorem Q2 {α β : Type} (f : β -> Int) (g : α -> List β) : ∀ l : List α, KV f (l.flatMap g) = KV (fun x => KV f (g x)) l
 | [] => rfl
 | x :: l => by rw [List.flatMap_cons, S5, KV, Q2 f g l]
theorem S6 {α β : Type} (f : β -> Int) (g : α -> β) : ∀ l : List α, KV f (l.map g) = KV (fun x => f (g x)) l
 | [] => rfl
 | x :: l => by rw [List.map_cons, KV, KV, S6 f g l]
theorem S4 {α : Type} (f g : α -> Int) : ∀ l : List α, KV (fun x => f x + g x) l = KV f l + KV g l
 | [] => rfl
 | x :: l => by rw [KV, KV, KV, S4 f g l]; omega
theorem Q3 {α : Type} : ∀ l : List α, KV (fun _ => (0 : Int)) l = 0
 | [] => rfl
 | x :: l => by rw [KV, Q3 l]; rfl
theorem NX {α : Type} (f g : α -> Int) (hfg : ∀ n v, IntKind.i64.wrap (n + f v) = IntKind.i64.wrap (n + g v)) : ∀ (l : List α) (a : Int), l.foldl (fun n v => IntKind.i64.wrap (n + f v)) (IntKind.i64.wrap a) = IntKind.i64.wrap (a + KV g l)
 | [], a => by rw [List.foldl_nil, KV]; congr 1; omega
 | x :: l, a => by
  rw [List.foldl_cons, hfg, wrap_add, NX f g hfg l, KV]
  congr 1; omega
section
variable {T : List Tri} {q : Qry} {o : List Int}
theorem kJ {a : Atm} {pre : List Int} (ha : a.2.length <= lim) (hp : pre.length <= o.length) (ho : o.length <= 5) : Ai (Dp o pre a) fz (([] : List Int), 0) = some (pfK a o pre pre.length) := by
 have hl : pre.length <= lim := by unfold lim; omega
 have := BJ (body := Dp o pre a) (out := pfK a o pre pre.length) (fun k => (pfK a o pre k, (k : Int))) pre.length (fun k hk rec => by
  have hpl := QL a o pre k (by omega)
  have hd := XC a o k
  have hJ : ∀ y, Ef rec (k : Int) y = rec (y, ((k + 1 : Nat) : Int)) := fun y => by unfold Ef; rw [AH hk (Ax hl)]
  unfold Dp
  simp only
  rw [AC hk, Ak hk, Ak (l := o) (by omega), pfK, GM (l := o) (by omega), GM hk]
  simp only [cond_true, Ad]
  rw [fA ha]
  simp only [hJ]
  cases a.2.contains o[k] with
  | true => simp only [cond_true]; rw [Am (by simp only [List.length_singleton]; unfold lim; omega)]
  | false => simp only [cond_false, List.append_nil]) (fun rec => by unfold Dp; simp only; rw [Ay]; rfl) fz (G0 hl)
 exact this
theorem bu (h : TriesOk T q o) {pre : List Int} (hk : pre.length < o.length) : G6 q T o pre = some (kyL T q o pre) := by
 have ho := HJ h.ov
 have hqn := MK h.qv
 have hq4 := (Od h.qv).2.2.1
 unfold G6 kyL
 have := BJ (body := Do q T o pre) (out := (ixK q (atI o (pre.length : Int)) q.2.1.length).map fun i => chB ((T[i]?).getD (0, [])) (pfK ((q.2.1[i]?).getD ([], [])) o pre pre.length)) (fun i => ((ixK q (atI o (pre.length : Int)) i).map fun i => chB ((T[i]?).getD (0, [])) (pfK ((q.2.1[i]?).getD ([], [])) o pre pre.length), (i : Int))) q.2.1.length (fun i hi rec => by
  have hxl := PF q (atI o (pre.length : Int)) i
  have hal := (h.sm.2.1 _ (List.getElem_mem hi)).2
  have hTl : i < T.length := by rw [h.len]; exact hi
  have hT := VY h hi (k := pre.length) (by omega)
  have hJ : ∀ y, Ee rec (i : Int) y = rec (y, ((i + 1 : Nat) : Int)) := fun y => by unfold Ee; rw [AH hi (Ax h.sm.1)]
  unfold Do
  simp only
  rw [AC hi, Ak hi, Ak hk, bG, AY hi, List.map_append, GM hk]
  simp only [cond_true, Ad]
  rw [fA hal]
  simp only
  cases hc : q.2.1[i].2.contains o[pre.length] with
  | false =>
   simp only [Bool.not_false, cond_true, cond_false, List.map_nil, List.append_nil]
   exact hJ _
  | true =>
   simp only [Bool.not_true, cond_false, cond_true]
   rw [kJ hal (by omega) (by omega)]
   simp only
   rw [Ak hTl]
   simp only
   rw [kD (by rw [QL _ _ _ _ (by omega)]; exact hT)]
   simp only
   rw [Am (by rw [List.length_map]; simp only [List.length_singleton]; unfold lim; rw [GM hk] at hxl; omega), hJ, List.map_cons, List.map_nil, List.getElem?_eq_getElem hTl, List.getElem?_eq_getElem hi]
   rfl) (fun rec => by unfold Do; simp only; rw [Ay]; rfl) fz (G0 h.sm.1)
 have h2 : Ai (Do q T o pre) fz (([] : List (List Int)), 0) = some ((ixK q (atI o (pre.length : Int)) q.2.1.length).map fun i => chB ((T[i]?).getD (0, [])) (pfK ((q.2.1[i]?).getD ([], [])) o pre pre.length)) := this
 rw [h2]; rfl
def lvK (T : List Tri) (q : Qry) (o : List Int) : Nat -> List (List Int)
 | 0 => [[]]
 | k + 1 => (lvK T q o k).flatMap fun p => (ky T q o p).1.map fun v => p ++ [v]
def stK (T : List Tri) (q : Qry) (o : List Int) : Nat -> Int
 | 0 => 0
 | k + 1 => (lvK T q o k).foldl (fun n p => IntKind.i64.wrap (n + (ky T q o p).2)) (stK T q o k)
theorem Sv : ∀ (k : Nat) (p : List Int), p ∈ lvK T q o k -> p.length = k
 | 0, p, h => by rw [lvK, List.mem_singleton] at h; subst h; rfl
 | k + 1, p, h => by
  rw [lvK] at h
  obtain ⟨p', hp', h2⟩ := List.mem_flatMap.1 h
  obtain ⟨v, _, rfl⟩ := List.mem_map.1 h2
  rw [List.length_append, Sv k p' hp', List.length_singleton]
theorem Pw {α β : Type} {f : α -> List β} {B : Nat} : ∀ (l : List α), (∀ x ∈ l, (f x).length <= B) -> (l.flatMap f).length <= l.length * B
 | [], _ => by simp
 | x :: l, h => by
  have h1 := h x (by simp)
  have h2 := Pw l fun y hy => h y (by simp [hy])
  rw [List.flatMap_cons, List.length_append, List.length_cons, Nat.add_mul, Nat.one_mul]
  omega
theorem X3 (h : TriesOk T q o) (h16 : ∀ t ∈ T, t.2.length <= 16) : ∀ k, k <= o.length -> (lvK T q o k).length <= 16 ^ k
 | 0, _ => by rw [lvK]; simp
 | k + 1, hk => by
  have h1 := X3 h h16 k (by omega)
  rw [lvK, Nat.pow_succ]
  refine Nat.le_trans (Pw _ fun p hp => ?_) (Nat.mul_le_mul_right 16 h1)
  rw [List.length_map]
  exact (O0 h h16 (by rw [Sv k p hp]; omega)).1
theorem jz {k : Nat} (h : k <= 5) : 16 ^ k <= 1048576 := Nat.pow_le_pow_right (show 0 < 16 by decide) h
theorem YY (h : TriesOk T q o) (h16 : ∀ t ∈ T, t.2.length <= 16) {n : Nat} (hn : n <= o.length) : BH q T o (n : Int) = some (lvK T q o n, stK T q o n, decide (((lvK T q o n).length : Int) <= 4000)) := by
 have ho := HJ h.ov
 have hqn := MK h.qv
 unfold BH
 have := BJ (body := A1 q T o (n : Int)) (out := (lvK T q o n, stK T q o n)) (fun k => (lvK T q o k, stK T q o k, (k : Int))) n (fun k hk rec => by
  have hlv := X3 h h16 k (by omega)
  have h16k := jz (show k <= 5 by omega)
  have hin := BJ (body := A2 q T o (lvK T q o k)) (out := (stK T q o (k + 1), lvK T q o (k + 1))) (fun j => (((lvK T q o k).take j).foldl (fun n p => IntKind.i64.wrap (n + (ky T q o p).2)) (stK T q o k), ((lvK T q o k).take j).flatMap (fun p => (ky T q o p).1.map fun v => p ++ [v]), (j : Int))) (lvK T q o k).length (fun j hj rec => by
   have hpl : (lvK T q o k)[j].length = k := Sv k _ (List.getElem_mem hj)
   obtain ⟨k1, k2, k3⟩ := O0 h h16 (pre := (lvK T q o k)[j]) (by omega)
   have hfew : (((lvK T q o k).take j).flatMap (fun p => (ky T q o p).1.map fun v => p ++ [v])).length <= 16777216 := by
    have := Pw (f := fun p => (ky T q o p).1.map fun v => p ++ [v]) (B := 16) ((lvK T q o k).take j) (fun p hp => by
     rw [List.length_map]
     exact (O0 h h16 (by rw [Sv k p (List.mem_of_mem_take hp)]; omega)).1)
    rw [List.length_take] at this
    omega
   generalize hacc : ((lvK T q o k).take j).flatMap (fun p => (ky T q o p).1.map fun v => p ++ [v]) = acc at hfew
   have hb3 := BJ (body := A3 (lvK T q o k)[j] (ky T q o (lvK T q o k)[j])) (out := acc ++ (ky T q o (lvK T q o k)[j]).1.map fun v => (lvK T q o k)[j] ++ [v]) (fun i => (acc ++ ((ky T q o (lvK T q o k)[j]).1.take i).map (fun v => (lvK T q o k)[j] ++ [v]), (i : Int))) (ky T q o (lvK T q o k)[j]).1.length (fun i hi rec => by
    unfold A3
    simp only
    rw [AC hi, Ak hi]
    simp only [cond_true, Ad]
    rw [Jq (by unfold lim; omega)]
    simp only
    rw [Am (by simp only [List.length_singleton]; unfold lim; omega), Am (by simp only [List.length_append, List.length_map, List.length_take, List.length_singleton]; unfold lim; omega), AH hi (by unfold maxLen; omega), List.take_succ_eq_append_getElem hi, List.map_append, List.append_assoc]
    rfl) (fun rec => by unfold A3; simp only; rw [Ay, List.take_length]; rfl) fz (by unfold fz; omega)
   unfold A2
   simp only
   rw [AC hj, Ak hj]
   simp only [cond_true, Ad]
   rw [bu h (by omega)]
   simp only
   rw [kG (WJ h (by omega)).1]
   simp only
   rw [show lfB (kyL T q o (lvK T q o k)[j]) = ky T q o (lvK T q o k)[j] from rfl]
   rw [List.take_zero, List.map_nil, List.append_nil] at hb3
   have hb4 : Ai (A3 (lvK T q o k)[j] (ky T q o (lvK T q o k)[j])) fz (acc, 0) = some (acc ++ (ky T q o (lvK T q o k)[j]).1.map fun v => (lvK T q o k)[j] ++ [v]) := hb3
   rw [hb4]
   simp only
   rw [List.take_succ_eq_append_getElem hj, List.foldl_append, List.flatMap_append, hacc, List.flatMap_cons, List.flatMap_nil, List.append_nil, AH hj (by unfold maxLen; omega)]
   rfl) (fun rec => by unfold A2; simp only; rw [Ay, List.take_length]; rfl) fz (by unfold fz; omega)
  have hin2 : Ai (A2 q T o (lvK T q o k)) fz (stK T q o k, ([] : List (List Int)), 0) = some (stK T q o (k + 1), lvK T q o (k + 1)) := hin
  unfold A1
  simp only
  rw [AC hk, hin2, AH hk (by unfold maxLen; omega)]
  rfl) (fun rec => by unfold A1; simp only; rw [Ay]; rfl) fz (by unfold fz; omega)
 have h2 : Ai (A1 q T o (n : Int)) fz (([[]] : List (List Int)), 0, 0) = some (lvK T q o n, stK T q o n) := this
 rw [h2]
 rfl
theorem R7 {α : Type} : ∀ l : List α, (l.flatMap fun p => [p]) = l
 | [] => rfl
 | x :: l => by rw [List.flatMap_cons, R7 l]; rfl
theorem dB : ∀ (k r : Nat), (lvK T q o k).flatMap (fun p => (wk T q o r p).1) = (wk T q o (k + r) []).1
 | 0, r => by rw [lvK, List.flatMap_cons, List.flatMap_nil, List.append_nil, Nat.zero_add]
 | k + 1, r => by
  rw [lvK, List.flatMap_assoc, show k + 1 + r = k + (r + 1) by omega, <- dB k (r + 1)]
  congr 1
  funext p
  rw [List.flatMap_map]
  rfl
def tk (T : List Tri) (q : Qry) (o : List Int) : Nat -> List Int -> Int
 | 0, _ => 0
 | r + 1, pre => (ky T q o pre).2 + KV (fun v => tk T q o r (pre ++ [v])) (ky T q o pre).1
theorem im (h : TriesOk T q o) {pre : List Int} (hk : pre.length < o.length) : IntKind.i64.wrap (ky T q o pre).2 = (ky T q o pre).2 := by
 have := US (WJ h hk).1
 have h1 := this.2.2.2
 exact wrap_in (by unfold ky; omega)
theorem eX (h : TriesOk T q o) : ∀ (r : Nat) (pre : List Int), pre.length + r = o.length -> (wk T q o r pre).2 = IntKind.i64.wrap (tk T q o r pre)
 | 0, pre, hr => rfl
 | r + 1, pre, hr => by
  have hlen : ∀ v : Int, (pre ++ [v]).length + r = o.length := fun v => by rw [List.length_append, List.length_singleton]; omega
  have hw := fun v => eX h r (pre ++ [v]) (hlen v)
  rw [wk, tk]
  simp only
  rw [<- NX (fun v => (wk T q o r (pre ++ [v])).2) (fun v => tk T q o r (pre ++ [v])) (fun n v => by rw [hw v, Int.add_comm, wrap_add, Int.add_comm]), im h (by omega)]
def sK (T : List Tri) (q : Qry) (o : List Int) : Nat -> Int
 | 0 => 0
 | k + 1 => sK T q o k + KV (fun p => (ky T q o p).2) (lvK T q o k)
theorem kc : ∀ k, stK T q o k = IntKind.i64.wrap (sK T q o k)
 | 0 => rfl
 | k + 1 => by
  rw [stK, kc k, sK, NX _ (fun p => (ky T q o p).2) (fun n v => rfl)]
theorem j9 : ∀ (k r : Nat), sK T q o k + KV (fun p => tk T q o r p) (lvK T q o k) = tk T q o (k + r) []
 | 0, r => by rw [sK, lvK, KV, KV, Nat.zero_add]; omega
 | k + 1, r => by
  rw [show k + 1 + r = k + (r + 1) by omega, <- j9 k (r + 1), sK, lvK, Q2]
  have e : (fun p => tk T q o (r + 1) p) = fun p => (ky T q o p).2 + KV (fun v => tk T q o r (p ++ [v])) (ky T q o p).1 := by funext p; rw [tk]
  have e2 : (fun p => KV (fun p => tk T q o r p) ((ky T q o p).1.map fun v => p ++ [v])) = fun p => KV (fun v => tk T q o r (p ++ [v])) (ky T q o p).1 := by funext p; rw [S6]
  rw [e, S4, e2]
  omega
theorem dA : lvK T q o o.length = (wk T q o o.length []).1 := by
 have := dB (T := T) (q := q) (o := o) o.length 0
 rw [Nat.add_zero] at this
 rw [<- this]
 exact (R7 _).symm
theorem eM (h : TriesOk T q o) : stK T q o o.length = (wk T q o o.length []).2 := by
 have := j9 (T := T) (q := q) (o := o) o.length 0
 rw [Nat.add_zero] at this
 rw [kc, eX h o.length [] (by simp), <- this]
 have e : (fun p => tk T q o 0 p) = fun _ => (0 : Int) := by funext p; rw [tk]
 rw [e, Q3, Int.add_zero]
theorem T9 : ∀ (p a b : List Int), Ej (p ++ a) (p ++ b) = Ej a b
 | [], a, b => rfl
 | x :: p, a, b => by rw [List.cons_append, List.cons_append, Ej, if_neg (by omega), if_neg (by omega)]; exact T9 p a b
theorem Yk (h : TriesOk T q o) (h16 : ∀ t ∈ T, t.2.length <= 16) : ∀ (r : Nat) (pre : List Int), pre.length + r = o.length -> Srt (wk T q o r pre).1
 | 0, pre, hr => by rw [wk]; exact List.pairwise_singleton _ _
 | r + 1, pre, hr => by
  have hlen : ∀ v : Int, (pre ++ [v]).length + r = o.length := fun v => by rw [List.length_append, List.length_singleton]; omega
  have hs := fun v => Yk h h16 r (pre ++ [v]) (hlen v)
  obtain ⟨k1, k2, k3⟩ := O0 h h16 (pre := pre) (by omega)
  rw [wk]
  unfold Srt
  simp only
  rw [List.pairwise_flatMap]
  refine ⟨fun v _ => hs v, k2.imp fun {v v'} hv x hx y hy => ?_⟩
  have hx2 := ((Ox h h16 r (pre ++ [v]) (hlen v)).2 x hx).2.1
  have hy2 := ((Ox h h16 r (pre ++ [v']) (hlen v')).2 y hy).2.1
  have ex := List.take_append_drop (pre ++ [v]).length x
  have ey := List.take_append_drop (pre ++ [v']).length y
  rw [hx2] at ex
  rw [hy2] at ey
  rw [<- ex, <- ey, List.append_assoc, List.append_assoc, T9]
  show Ej (v :: _) (v' :: _) < 0
  rw [Ej, if_pos hv]
  omega
theorem Ys {x : List Int} (h : ∀ e ∈ x, 0 <= e ∧ e <= 99) : MQ x = true := by
 unfold MQ
 rw [LG fun i hi => by
  have := h _ (List.getElem_mem hi)
  first
   | (rw [AY hi]; unfold btw; simp; omega)
   | (unfold btw; simp; omega)]
 rfl
theorem jx (h : TriesOk T q o) (h16 : ∀ t ∈ T, t.2.length <= 16) : nrB (o.length : Int) (wk T q o o.length []).1 = cond (decide (((wk T q o o.length []).1.length : Int) <= 4000)) (((o.length : Int), (wk T q o o.length []).1), true) ((0, []), false) := by
 have ho := HJ h.ov
 have hqn := MK h.qv
 obtain ⟨w1, w2⟩ := Ox h h16 o.length [] (by simp)
 have hs := Yk h h16 o.length [] (by simp)
 have hrow : ∀ x ∈ (wk T q o o.length []).1, x.length = o.length ∧ MQ x = true := fun x hx => ⟨(w2 x hx).1, Ys ((w2 x hx).2.2 fun e he => by cases he)⟩
 have hsort : sortB (wk T q o o.length []).1 = (wk T q o o.length []).1 := (Oo hs fun z => Iff.rfl).symm
 unfold nrB
 rw [hsort, LG fun i hi => by
  have := hrow _ (List.getElem_mem hi)
  first
   | (unfold Lu; rw [this.1, this.2]; simp)
   | (rw [AY hi]; unfold Lu; rw [this.1, this.2]; simp)]
 rw [cond_false]
 have hrel : G9 ((o.length : Int), (wk T q o o.length []).1) = decide (((wk T q o o.length []).1.length : Int) <= 4000) := by
  rw [Bool.eq_iff_iff, HK, decide_eq_true_eq]
  constructor
  ·rintro ⟨_, h2, _⟩
   simp only at h2
   omega
  ·intro h2
   exact ⟨⟨by simp only; omega, by simp only; omega⟩, by simp only; omega, fun x hx => ⟨by rw [(hrow x hx).1], (hrow x hx).2⟩, hs⟩
 rw [hrel]
 cases decide (((wk T q o o.length []).1.length : Int) <= 4000) <;> rfl
end
theorem kF {T : List Tri} (hl : T.length <= lim) : G7 T = some (emB T) := by
 unfold G7 emB
 have := KM (B := Fp T) (n := T.length) (fun k => atB T k fun t => (t.2.length : Int) == 0) true hl (fun k hk rec => by
  unfold Fp
  rw [AC hk, Ak hk, AH hk (Ax hl), AY hk]
  rfl) (fun rec => by unfold Fp; rw [Ay]; rfl)
 rw [this]
 have e : (List.range T.length).any (fun k => atB T k fun t => (t.2.length : Int) == 0) = AI T fun _ t => (t.2.length : Int) == 0 := rfl
 rw [e]
 cases AI T fun _ t => (t.2.length : Int) == 0 <;> rfl
section
variable {d : List Tbl} {q : Qry} {o : List Int}
theorem kH (h : Kb d) (hq : smQ q) (ho : o.length <= lim) : Fn d q o = some (ljB d q o) := by
 unfold Fn ljB
 rw [Y1 h hq ho]
 unfold O7
 cases hf : J0 d q with
 | false => rfl
 | true =>
  cases hor : OF q o with
  | false => rfl
  | true =>
   simp only [Bool.and_self, cond_true, Ad, Bool.not_true, cond_false]
   have hT := Qd (d := d) hq hf hor
   have ho2 := HJ hor
   rw [show q.2.1.map (Q4 d o) = trs d q o from rfl] at hT ⊢
   rw [kF (by rw [hT.len]; exact hq.1)]
   simp only
   rw [<- ho2.1]
   cases emB (trs d q o) with
   | true => rfl
   | false =>
    simp only [cond_false]
    rw [YY hT (S7 hf hor) (Nat.le_refl _)]
    simp only
    rw [dA, eM hT, jx hT (S7 hf hor)]
    cases decide (((wk (trs d q o) q o o.length []).1.length : Int) <= 4000) <;> rfl
end
end Go.Proofs.YtlknpohjnpnodaaGreat
