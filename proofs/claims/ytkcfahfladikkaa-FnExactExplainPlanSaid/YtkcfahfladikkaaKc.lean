/-
  A machine on data, part 3: how a law's arguments read as data. Over any program; no conditions.
-/
import Derived.Test.YtkcfahfladikkaaKa
import Derived.Deep.Slices
import Derived.OpenShut
import Derived.Lib.SmallJoins
import Derived.Carry
import Derived.ProofKit
import Derived.Test.YtkcfahfladikkaaKb
namespace Go.Proofs.Ytkcfahfladikkaa
open Go.RowKit Go.ChangeShapes Go.WideShapes Go.Deep

theorem list_of_fn {α : Type} [Inhabited α] {n : Nat} {p : Nat → α → Prop} (h : ∀ i, i < n → ∃ x, p i x) : ∃ l : List α, l.length = n ∧ ∀ i (hi : i < l.length), p i l[i] := by
  obtain ⟨f, hf⟩ := choose_lt h
  refine ⟨(List.range n).map f, by simp, fun i hi => ?_⟩
  simp only [List.length_map, List.length_range] at hi
  simpa using hf i hi

theorem flat_get {size : Nat} {f : Nat → List Value} : ∀ (n : Nat), (∀ i, i < n → (f i).length = size) → ((List.range n).flatMap f).length = n * size ∧
    ∀ i j, i < n → j < size → ((List.range n).flatMap f)[i * size + j]? = (f i)[j]? := by
  intro n
  induction n with
  | zero => intro _; exact ⟨by simp, fun i j hi => absurd hi (by omega)⟩
  | succ n ih =>
    intro h
    obtain ⟨h1, h2⟩ := ih (fun i hi => h i (by omega))
    rw [List.range_succ, List.flatMap_append, List.flatMap_singleton]
    refine ⟨by rw [List.length_append, h1, h n (by omega), Nat.succ_mul], fun i j hi hj => ?_⟩
    by_cases e : i = n
    · subst e
      rw [List.getElem?_append_right (by omega), h1, Nat.add_sub_cancel_left]
    · have hlt : i * size + j < n * size := by
        have : (i + 1) * size ≤ n * size := Nat.mul_le_mul_right _ (by omega)
        rw [Nat.succ_mul] at this
        omega
      rw [List.getElem?_append_left (by omega), h2 i j (by omega) hj]

section
variable {H : Type} {enc : TypeId × Value → H} {P : Program} {w : World} {base : Nat} {spare : Nat → Bool} {held : Bool}

theorem addr_plain {a : Addr} {j : Nat} {u : Value} (h0 : ∃ v, w.cell? (a.add 0) = some v) (h : w.cell? (a.add j) = some u) : ∃ b off, a = ⟨b, off, none⟩ ∧ w.cell? ⟨b, off + j, none⟩ = some u := by
  obtain ⟨v, h0⟩ := h0
  obtain ⟨b, off, spot⟩ := a
  have hspot : spot = none := by simpa [Addr.add] using World.cell?_spot h0
  subst hspot
  exact ⟨b, off, rfl, by rw [← Go.WideShapes.add_plain]; exact h⟩

/-- A slice that came in: its cells, and the reading of each element's cells. -/
theorem open_row {t e : TypeId} {size fuel : Nat} {v : Value} {x : DataW H × List MemPlace} (ht : P.underlying t = some (.slice e)) (hC : P.cellsOf e = size) (hs : 0 < size)
    (h : DataW.trod enc P w base spare held fuel t [v] = some x) :
    ∃ (n : Nat) (xs : List Value), RowAt w size v n xs ∧ ∀ i, i < n → ∃ y m, DataW.trod enc P w base spare held m e ((xs.drop (i * size)).take size) = some y := by
  rcases open_slice ht h with ⟨hv, _⟩ | ⟨a, len, cap, m, fl, D, Pl, hv, hb, hl, hm, hmm, hx, hi⟩
  · obtain rfl : v = .slice none 0 0 := by simpa using hv
    exact ⟨0, [], ⟨none, 0, rfl, by omega, by simp, fun h0 => absurd h0 (by omega)⟩, fun i hi => absurd hi (by omega)⟩
  · obtain rfl : v = .slice (some a) len cap := by simpa using hv
    subst hC
    have hlm : len ≤ m := by rw [hmm]; split <;> omega
    obtain ⟨f, hf⟩ := choose_lt (α := List Value) (fun i hlt => hi i (Nat.lt_of_lt_of_le hlt hlm))
    have hfl : ∀ i, i < len → (f i).length = P.cellsOf e := fun i hlt => (World.cells?_some (hf i hlt).1).2.1
    obtain ⟨g1, g2⟩ := flat_get (size := P.cellsOf e) (f := f) len hfl
    have hcell : ∀ j u, ((List.range len).flatMap f)[j]? = some u → w.cell? (a.add j) = some u := by
      intro j u hu
      have hj : j < len * P.cellsOf e := by
        rcases Nat.lt_or_ge j (len * P.cellsOf e) with h1 | h1
        · exact h1
        · rw [List.getElem?_eq_none (by omega)] at hu; cases hu
      have hd : j / P.cellsOf e < len := by
        rw [Nat.div_lt_iff_lt_mul hs]; exact hj
      have hr : j % P.cellsOf e < P.cellsOf e := Nat.mod_lt _ hs
      have he : j / P.cellsOf e * P.cellsOf e + j % P.cellsOf e = j := by rw [Nat.mul_comm]; exact Nat.div_add_mod _ _
      have := g2 _ _ hd hr
      rw [he, hu] at this
      have h3 := (World.cells?_some (hf _ hd).1).2.2 _ hr
      rw [Go.Deep.add_add, he] at h3
      rw [h3]; exact this.symm
    refine ⟨len, (List.range len).flatMap f, ⟨some a, cap, rfl, by unfold maxLen at hm; omega, g1, fun hn => ?_⟩, fun i hlt => ?_⟩
    · have h00 : ∃ v, w.cell? (a.add 0) = some v := by
        have hp : 0 < ((List.range len).flatMap f).length := by rw [g1]; exact Nat.mul_pos hn hs
        exact ⟨_, hcell 0 _ (List.getElem?_eq_getElem hp)⟩
      obtain ⟨v0, h0⟩ := h00
      obtain ⟨b, off, rfl, _⟩ := addr_plain ⟨v0, h0⟩ h0
      refine ⟨b, off, rfl, fun j u hu => ?_⟩
      rw [← Go.WideShapes.add_plain]
      exact hcell j u hu
    · refine ⟨(D i, Pl i), fl, ?_⟩
      rw [← (hf i hlt).2]
      congr 1
      apply List.ext_getElem?
      intro j
      rw [List.getElem?_take, List.getElem?_drop]
      by_cases hj : j < P.cellsOf e
      · rw [if_pos hj, g2 i j hlt hj]
      · rw [if_neg hj, List.getElem?_eq_none (by rw [hfl i hlt]; omega)]

theorem take1 {xs : List Value} {i : Nat} (hi : i < xs.length) : (xs.drop (i * 1)).take 1 = [xs[i]] := by
  rw [Nat.mul_one, List.drop_eq_getElem_cons hi]; rfl

theorem wf_fit {n : Int} (h : (Lit.int .i64 n).wf = true) : -9223372036854775808 ≤ n ∧ n ≤ 9223372036854775807 := by
  simpa [Lit.wf, IntKind.min, IntKind.max, IntKind.signed, IntKind.bits] using h

end
end Go.Proofs.Ytkcfahfladikkaa

namespace Go.Proofs.Ytkcfahfladikkaa
open Go.RowKit Go.ChangeShapes Go.WideShapes

section
variable {H : Type} {enc : TypeId × Value → H} {P : Program}

theorem trodAll_below {W W' : World} (hl : laidOutB P = true) (hb : Below W.heap.size W W') : ∀ (ts : List TypeId) {vs : List Value} {ds : List (DataW H)} {p : List MemPlace},
    ts.all (fun t => P.readableRec t && decide (t < P.types.size)) = true → DataW.TrodAll enc P W 0 (fun _ => true) true ts vs ds p → (∀ x ∈ p, x.block < W.heap.size) →
    DataW.TrodAll enc P W' 0 (fun b => decide (b < W.heap.size)) true ts vs ds p := by
  intro ts
  induction ts with
  | nil =>
    intro vs ds p _ h _
    obtain ⟨rfl, rfl, rfl⟩ := trodAll_nil h
    exact trodAll_mk0
  | cons t ts ih =>
    intro vs ds p hall h hlt
    obtain ⟨v, vs', d, ds', p1, q, rfl, rfl, rfl, h0, hr⟩ := trodAll_cons h
    simp only [List.all_cons, Bool.and_eq_true, decide_eq_true_eq] at hall
    exact trodAll_cons_mk (Below.trod hl hall.1.1 hall.1.2 h0 hb (fun x hx => hlt x (List.mem_append_left _ hx))) (ih hall.2 hr (fun x hx => hlt x (List.mem_append_right _ hx)))

theorem law_post {f : Func} {s : ChangeSpec} {W W' : World} {args : Array Value} {ds : List (DataW H)} {p : List MemPlace} {tb : TypeId} (hl : laidOutB P = true)
    (hr : f.params.toList.all (fun t => P.readableRec t && decide (t < P.types.size)) = true) (hvs : s.vars = []) (hres : f.resultTypes = #[tb]) (htb : P.underlying tb = some .bool)
    (hW : DataW.Whole enc P f.params.toList s.vars false W args.toList ds [] p) (hA : DataW.TrodAll enc P W 0 (fun _ => true) true f.params.toList args.toList ds p)
    (hs : s.fn H (ds ++ []) = { results := [.lit (.bool true)], args := ds }) (hb : Below W.heap.size W W') :
    s.post enc P f false true false false W args (.bool true) W' := by
  have hlt : ∀ x ∈ p, x.block < W.heap.size := fun x hx => hW.lt x hx
  refine ⟨ds, [], p, [], p, [], hW, ?_, ?_, ?_, World.keptBut_mono (fun x hx => ⟨hx, .inr (.inl hx)⟩) (hb.frame (· ∈ p)), fun h => by cases h⟩
  · rw [hs, hres]
    exact trodAll_cons_mk (shut_bool htb _) trodAll_mk0
  · rw [hs]
    exact trodAll_below hl hb _ hr hA hlt
  · rw [hs, hvs]
    rfl
end
end Go.Proofs.Ytkcfahfladikkaa

namespace Go.Proofs.Ytkcfahfladikkaa
open Go.RowKit Go.ChangeShapes Go.WideShapes Go.Deep
set_option linter.unusedVariables false
/-- all that there is stays -/
def StA (w : World) : Nat → Nat → Prop := fun b _ => b < w.heap.size
section
variable {H : Type} (enc : TypeId × Value → H) (P : Program) (w : World) (base : Nat) (spare : Nat → Bool) (held : Bool)
/-- what reads as a datum of the type reads as data of the machine -/
def Opens (t : TypeId) {α : Type} (c : α → List V) (ok : α → Prop) : Prop := ∀ (fuel : Nat) (cs : List Value) (x : DataW H × List MemPlace), DataW.trod enc P w base spare held fuel t cs = some x → ∃ a, RdL w (StA w) (c a) cs ∧ ok a
end
/-- in the range of int -/
def InI (n : Int) : Prop := -9223372036854775808 ≤ n ∧ n ≤ 9223372036854775807
section
variable {H : Type} {enc : TypeId × Value → H} {P : Program} {w : World} {base : Nat} {spare : Nat → Bool} {held : Bool}
theorem opens_int {t : TypeId} (ht : P.underlying t = some (.int .i64)) : Opens enc P w base spare held t ci64 InI := by
  intro fuel cs x h
  obtain ⟨n, rfl, _, hw⟩ := DataW.trod_int ht h
  exact ⟨n, ⟨_, [], rfl, rfl, rfl⟩, wf_fit hw⟩
theorem opens_u8 {t : TypeId} (ht : P.underlying t = some (.int .u8)) : Opens enc P w base spare held t cu8 (fun n => 0 ≤ n ∧ n ≤ 255) := by
  intro fuel cs x h
  obtain ⟨n, rfl, _, hw⟩ := DataW.trod_int ht h
  exact ⟨n, ⟨_, [], rfl, rfl, rfl⟩, by simpa [Lit.wf, IntKind.min, IntKind.max, IntKind.signed, IntKind.bits] using hw⟩
theorem opens_bool {t : TypeId} (ht : P.underlying t = some .bool) : Opens enc P w base spare held t cbl (fun _ => True) := by
  intro fuel cs x h
  obtain ⟨n, rfl, _⟩ := DataW.trod_bool ht h
  exact ⟨n, ⟨_, [], rfl, rfl, rfl⟩, trivial⟩
theorem opens_str {t : TypeId} (ht : P.underlying t = some .string) : Opens enc P w base spare held t cst (fun u => u.length ≤ maxLen) := by
  intro fuel cs x h
  obtain ⟨s, rfl, _, hs⟩ := DataW.trod_string ht h
  have hl : s.data.toList.length ≤ maxLen := by rw [Array.length_toList]; exact hs
  exact ⟨s.data.toList, ⟨_, [], rfl, ⟨by cases s; simp, hl⟩, rfl⟩, hl⟩
theorem rdL_app {St : Nat → Nat → Prop} : ∀ {cs ds : List V} {us vs : List Value}, RdL w St cs us → RdL w St ds vs → RdL w St (cs ++ ds) (us ++ vs)
  | [], _, _, _, h, h2 => by rw [show _ = [] from h]; exact h2
  | c :: cs, _, _, _, ⟨u, us', e, h1, h3⟩, h2 => by rw [e]; exact ⟨u, us' ++ _, rfl, h1, rdL_app h3 h2⟩
theorem rdL_flat {St : Nat → Nat → Prop} {α : Type} {c : α → List V} {n : Nat} : ∀ (l : List α) (xs : List Value), xs.length = l.length * n → (∀ i (hi : i < l.length), RdL w St (c l[i]) ((xs.drop (i * n)).take n)) → RdL w St (l.flatMap c) xs
  | [], xs, hl, _ => by
    have : xs = [] := List.eq_nil_of_length_eq_zero (by simpa using hl)
    rw [this]; rfl
  | a :: l, xs, hl, h => by
    rw [List.flatMap_cons, ← List.take_append_drop n xs]
    have h0 := h 0 (by simp)
    rw [Nat.zero_mul, List.drop_zero, List.getElem_cons_zero] at h0
    have hl2 : (xs.drop n).length = l.length * n := by rw [List.length_drop, hl, List.length_cons, Nat.succ_mul]; omega
    refine rdL_app h0 (rdL_flat l (xs.drop n) hl2 (fun i hi => ?_))
    have := h (i + 1) (by simpa using hi)
    rw [List.getElem_cons_succ] at this
    rw [List.drop_drop, show n + i * n = (i + 1) * n by rw [Nat.add_mul]; omega]
    exact this
theorem rdRow_of {b off : Nat} {cs : List V} {us : List Value} (hr : RdL w (StA w) cs us) (hb : ∀ (j : Nat) (u : Value), us[j]? = some u → w.cell? ⟨b, off + j, none⟩ = some u) (hlt : b < w.heap.size) : RdRow w (StA w) b off cs := by
  refine RdRow.mk (fun j c hc => ?_)
  obtain ⟨u, h1, h2⟩ := hr.get j c hc
  exact ⟨hlt, u, hb j u h1, h2⟩
theorem cell_lt {b o : Nat} {u : Value} (h : w.cell? ⟨b, o, none⟩ = some u) : b < w.heap.size := by
  rcases Nat.lt_or_ge b w.heap.size with h1 | h1
  · exact h1
  · simp [World.cell?, Array.getElem?_eq_none h1] at h
theorem opens_sl {t e : TypeId} {α : Type} [Inhabited α] {c : α → List V} {ok : α → Prop} {n : Nat} (ht : P.underlying t = some (.slice e)) (hC : P.cellsOf e = n) (hn : 0 < n) (hsz : ∀ a, (c a).length = n) (he : Opens enc P w base spare held e c ok) :
    Opens enc P w base spare held t (fun l : List α => [.dat l.length (l.flatMap c)]) (fun l => l.length ≤ maxLen ∧ ∀ a ∈ l, ok a) := by
  intro fuel cs x h
  have hcs : ∃ v, cs = [v] ∧ ∃ A k cp, v = .slice A k cp ∧ k ≤ cp ∧ cp ≤ maxLen := by
    rcases open_slice ht h with ⟨h0, _⟩ | ⟨a, len, cap, m, fl, D, Pl, hv, hb, hl, hm, _⟩
    · exact ⟨_, h0, none, 0, 0, rfl, Nat.le_refl _, Nat.zero_le _⟩
    · exact ⟨_, hv, some a, len, cap, rfl, hl, hm⟩
  obtain ⟨v, rfl, A, k, cp, hv, hkc, hcm⟩ := hcs
  obtain ⟨k', xs, hr, hi⟩ := open_row ht hC hn h
  obtain ⟨A', cp', hv', hk, hlx, hrow⟩ := hr
  rw [hv] at hv'
  injection hv' with e1 e2 e3
  subst e1 e2 e3
  obtain ⟨l, hl, hp⟩ := list_of_fn (α := α) (n := k) (p := fun i a => RdL w (StA w) (c a) ((xs.drop (i * n)).take n) ∧ ok a) (fun i hlt => by
    obtain ⟨y, m, hy⟩ := hi i hlt
    exact he _ _ _ hy)
  have hrd := rdL_flat l xs (by rw [hlx, hl]) (fun i hi => (hp i hi).1)
  refine ⟨l, ⟨v, [], rfl, ?_, rfl⟩, by rw [hl]; omega, fun a ha => ?_⟩
  · rw [hv]
    refine ⟨by rw [hl]; omega, A, cp, by rw [hl], by rw [hl]; exact hkc, fun hpos => ?_, fun h0 => ?_⟩
    · obtain ⟨b, off, rfl, hcell⟩ := hrow (by omega)
      refine ⟨b, off, rfl, rdRow_of hrd hcell ?_⟩
      have : 0 < xs.length := by rw [hlx]; exact Nat.mul_pos (by omega) hn
      exact cell_lt (hcell 0 _ (List.getElem?_eq_getElem this))
    · rw [List.eq_nil_of_length_eq_zero h0]; rfl
  · obtain ⟨i, hi', rfl⟩ := List.mem_iff_getElem.1 ha
    exact (hp i hi').2
theorem rdl_field {St : Nat → Nat → Prop} {cs ds : List V} {us : List Value} {off n : Nat} (h1 : RdL w St cs ((us.drop off).take n)) (h2 : RdL w St ds (us.drop (off + n))) : RdL w St (cs ++ ds) (us.drop off) := by
  rw [← List.take_append_drop n (us.drop off), List.drop_drop]
  exact rdL_app h1 h2
theorem rdl_end {St : Nat → Nat → Prop} {us : List Value} {n : Nat} (h : us.length = n) : RdL w St [] (us.drop n) := by
  rw [List.drop_of_length_le (by omega)]; rfl
theorem st_field {t : TypeId} {fs : Array Field} {cs : List Value} {fuel : Nat} {x : DataW H × List MemPlace} (hs : P.underlying t = some (.struct fs)) (h : DataW.trod enc P w base spare held fuel t cs = some x) {j : Nat} {f : Field} (hj : fs[j]? = some f) : ∃ y n, DataW.trod enc P w base spare held n f.type ((cs.drop f.offset).take (P.cellsOf f.type)) = some y := by
  obtain ⟨ys, n, _, _, _, hlen, hf⟩ := DataW.trod_struct hs h
  have hjl : j < fs.size := (Array.getElem?_eq_some_iff.1 hj).1
  exact ⟨_, n, (hf j f hj).trans (List.getElem?_eq_getElem (by omega))⟩
theorem st_len {t : TypeId} {fs : Array Field} {cs : List Value} {fuel : Nat} {x : DataW H × List MemPlace} (hs : P.underlying t = some (.struct fs)) (h : DataW.trod enc P w base spare held fuel t cs = some x) : cs.length = P.cellsOf t := by
  obtain ⟨ys, n, _, _, hl, _, _⟩ := DataW.trod_struct hs h
  exact hl
/-- an argument that is no struct -/
theorem arg_one {t : TypeId} {α : Type} {c : α → List V} {g : α → V} {ok : α → Prop} {v : Value} {d : DataW H} {p : List MemPlace} (ho : Opens enc P w base spare held t c ok) (hc : ∀ a, c a = [g a]) (hg : ∀ a, (g a).isCell = true) (hv : v.cells = #[v]) (h : DataW.Trod enc P w base spare held t v d p) : ∃ a, RdA w (StA w) (g a) v ∧ ok a := by
  obtain ⟨fuel, hf⟩ := h
  rw [hv] at hf
  obtain ⟨a, h1, h2⟩ := ho _ _ _ hf
  rw [hc] at h1
  obtain ⟨u, us', e, h3, h4⟩ := h1
  injection e with e1 e2
  subst e1
  refine ⟨a, ?_, h2⟩
  have := hg a
  cases hga : g a <;> rw [hga] at h3 this <;> first | exact h3 | cases this
/-- an argument that is a struct -/
theorem arg_st {t : TypeId} {α : Type} {c : α → List V} {ok : α → Prop} {cs : Array Value} {d : DataW H} {p : List MemPlace} (ho : Opens enc P w base spare held t c ok) (h : DataW.Trod enc P w base spare held t (.agg cs) d p) : ∃ a, RdA w (StA w) (.agg (c a)) (.agg cs) ∧ ok a := by
  obtain ⟨fuel, hf⟩ := h
  obtain ⟨a, h1, h2⟩ := ho _ _ _ hf
  exact ⟨a, ⟨cs.toList, by simp, h1⟩, h2⟩
theorem law_calls {f : FuncId} {args : List V} {vs : List Value} (hs : SoundAt P f args (.bool true)) (h : RdAs w (StA w) args vs) : Calls P f vs.toArray w (fun e w' => e = .returned (.bool true) ∧ Below w.heap.size w w') := by
  refine (hs.2 w (StA w) vs (fun b o h => h) h).mono ?_
  rintro e w' ⟨v, bs, St', rfl, hb, _, _, ho, _⟩
  have hv : v = .bool true := ho.2
  rw [hv]
  exact ⟨rfl, hb⟩
end
end Go.Proofs.Ytkcfahfladikkaa

namespace Go.Proofs.Ytkcfahfladikkaa
open Go.RowKit
set_option linter.unusedVariables false
/-- the slots but s do not look at what s owns -/
def sfL (s : Nat) : List (Nat × V) → Prop
  | [] => True
  | (q, c) :: L => (q = s ∨ safeV c = true) ∧ sfL s L
theorem sfn {s : Nat} : sfL s [] := trivial
theorem sfc {s q : Nat} {c : V} {L : List (Nat × V)} (h : safeV c = true) (k : sfL s L) : sfL s ((q, c) :: L) := ⟨.inr h, k⟩
theorem sfs {s : Nat} {c : V} {L : List (Nat × V)} (k : sfL s L) : sfL s ((s, c) :: L) := ⟨.inl rfl, k⟩
theorem sf_of {s : Nat} : ∀ {L : List (Nat × V)}, sfL s L → ∀ q, q ≠ s → safeV (ofL L q) = true
  | [], _, q, _ => rfl
  | (r, c) :: L, ⟨h1, h2⟩, q, hq => by
    by_cases e : q = r
    · subst e
      rw [show ofL ((q, c) :: L) q = c from by simp [ofL, upd_same]]
      rcases h1 with h1 | h1
      · exact absurd h1 hq
      · exact h1
    · rw [show ofL ((r, c) :: L) q = ofL L q from by simp [ofL, upd_ne _ _ e]]
      exact sf_of h2 q hq
theorem scn : ([] : List V).all safeC = true := rfl
theorem scc {c : V} {cs : List V} (h : safeC c = true) (k : cs.all safeC = true) : (c :: cs).all safeC = true := by rw [List.all_cons, h, k]; rfl
theorem sco {α : Type} {f : α → List V} (h : ∀ x, deepL (f x) = true) {e : TypeId} {n : Nat} (l : List α) : safeC (.own e n (l.flatMap f)) = true := by
  unfold safeC; rw [deep, deep_flat h]; rfl
theorem argdL_app : ∀ {a b : List V}, argdL (a ++ b) = (argdL a && argdL b)
  | [], b => by simp [argdL]
  | c :: a, b => by rw [List.cons_append, argdL, argdL, argdL_app (a := a), Bool.and_assoc]
theorem argd_flat {α : Type} {f : α → List V} (h : ∀ x, argdL (f x) = true) : ∀ l : List α, argdL (l.flatMap f) = true
  | [] => rfl
  | x :: l => by rw [List.flatMap_cons, argdL_app, h x, argd_flat h l]; rfl
theorem sca {α : Type} {f : α → List V} (h : ∀ x, argdL (f x) = true) {n : Nat} (l : List α) : safeC (.arg n (l.flatMap f)) = true := by
  unfold safeC; rw [argd, argd_flat h, Bool.or_true]
theorem adc {c : V} {cs : List V} (h1 : argd c = true) (h2 : argdL cs = true) : argdL (c :: cs) = true := by rw [argdL, h1, h2]; rfl
theorem ada {α : Type} {f : α → List V} (h : ∀ x, argdL (f x) = true) {n : Nat} (l : List α) : argd (.arg n (l.flatMap f)) = true := argd_flat h l
/-! ### arguments that stay whole -/
mutual
def upV : V → V
  | .dat n cs => .arg n (upL cs)
  | .agg cs => .agg (upL cs)
  | .int k n => .int k n
  | .bool b => .bool b
  | .str s => .str s
  | _ => .undef
def upL : List V → List V
  | [] => []
  | c :: cs => upV c :: upL cs
end
theorem upL_nil {cs : List V} (h : cs = []) : upL cs = [] := by subst h; rfl
mutual
/-- no own memory in it -/
def plD : V → Bool
  | .dat _ cs => plDL cs
  | .int _ _ => true
  | .bool _ => true
  | .str _ => true
  | _ => false
def plDL : List V → Bool
  | [] => true
  | c :: cs => plD c && plDL cs
end
section
variable {w : World}
mutual
theorem Rd.up : ∀ (c : V) {v : Value}, plD c = true → Rd w (StA w) c v → Rd w (StA w) (upV c) v
  | .int _ _, _, _, h => h
  | .bool _, _, _, h => h
  | .str _, _, _, h => h
  | .dat _ cs, _, hp, ⟨hn, A, c, e, hc, h, h0⟩ => ⟨hn, A, c, e, hc, fun hz => by
      obtain ⟨b, off, ea, hr⟩ := h hz
      refine ⟨b, off, ea, fun hne o => ?_, RdRow.up b off cs hp hr⟩
      cases cs with
      | nil => exact absurd rfl hne
      | cons c cs => exact hr.1.1, fun hz => upL_nil (h0 hz)⟩
  | .own _ _ _, _, hp, _ => by cases hp
  | .arg _ _, _, hp, _ => by cases hp
  | .pin _ _ _, _, hp, _ => by cases hp
  | .agg _, _, hp, _ => by cases hp
  | .tup _, _, hp, _ => by cases hp
  | .box _, _, hp, _ => by cases hp
  | .uni _ _ _, _, hp, _ => by cases hp
  | .same _, _, hp, _ => by cases hp
  | .cref _ _, _, hp, _ => by cases hp
  | .adr _ _, _, hp, _ => by cases hp
  | .gh _ _, _, hp, _ => by cases hp
  | .undef, _, hp, _ => by cases hp
theorem RdRow.up (b : Nat) : ∀ (off : Nat) (cs : List V), plDL cs = true → RdRow w (StA w) b off cs → RdRow w (StA w) b off (upL cs)
  | _, [], _, _ => trivial
  | off, c :: cs, hp, ⟨⟨h1, u, hu, hr⟩, h2⟩ => by
    have hp' : plD c = true ∧ plDL cs = true := by simpa [plDL] using hp
    exact ⟨⟨h1, u, hu, Rd.up c hp'.1 hr⟩, RdRow.up b (off + 1) cs hp'.2 h2⟩
end
theorem RdL.up : ∀ (cs : List V) {us : List Value}, plDL cs = true → RdL w (StA w) cs us → RdL w (StA w) (upL cs) us
  | [], _, _, h => h
  | c :: cs, _, hp, ⟨u, us', e, h1, h2⟩ => by
    have hp' : plD c = true ∧ plDL cs = true := by simpa [plDL] using hp
    exact ⟨u, us', e, Rd.up c hp'.1 h1, RdL.up cs hp'.2 h2⟩
end
/-- the same datum, as an argument that stays whole -/
def Ups (d a : List V) : Prop := upL d = a ∧ plDL d = true
theorem upn : Ups [] [] := ⟨rfl, rfl⟩
theorem upc {c c' : V} {cs cs' : List V} (h1 : upV c = c' ∧ plD c = true) (h2 : Ups cs cs') : Ups (c :: cs) (c' :: cs') := ⟨by rw [upL, h1.1, h2.1], by rw [plDL, h1.2, h2.2]; rfl⟩
theorem ups_app {a b a' b' : List V} (h1 : Ups a a') (h2 : Ups b b') : Ups (a ++ b) (a' ++ b') := by
  obtain ⟨rfl, p1⟩ := h1
  obtain ⟨rfl, p2⟩ := h2
  induction a with
  | nil => exact ⟨rfl, p2⟩
  | cons c a ih =>
    have hp : plD c = true ∧ plDL a = true := by simpa [plDL] using p1
    exact upc ⟨rfl, hp.1⟩ (ih hp.2)
theorem ups_flat {α : Type} {f g : α → List V} (h : ∀ x, Ups (f x) (g x)) : ∀ l : List α, Ups (l.flatMap f) (l.flatMap g)
  | [] => upn
  | x :: l => by rw [List.flatMap_cons, List.flatMap_cons]; exact ups_app (h x) (ups_flat h l)
theorem upd_ {α : Type} {f g : α → List V} (h : ∀ x, Ups (f x) (g x)) (l : List α) : upV (.dat l.length (l.flatMap f)) = .arg l.length (l.flatMap g) ∧ plD (.dat l.length (l.flatMap f)) = true := by
  obtain ⟨h1, h2⟩ := ups_flat h l
  exact ⟨by rw [upV, h1], by rw [plD]; exact h2⟩
theorem ci64_up (n : Int) : Ups (ci64 n) (ci64 n) := ⟨rfl, rfl⟩
theorem cu8_up (n : Int) : Ups (cu8 n) (cu8 n) := ⟨rfl, rfl⟩
theorem cbl_up (n : Bool) : Ups (cbl n) (cbl n) := ⟨rfl, rfl⟩
theorem cst_up (n : List UInt8) : Ups (cst n) (cst n) := ⟨rfl, rfl⟩
theorem rda_agg {w : World} {d a : List V} {v : Value} (h : Ups d a) (hr : RdA w (StA w) (.agg d) v) : RdA w (StA w) (.agg a) v := by
  obtain ⟨us, e, hr⟩ := hr
  exact ⟨us, e, by rw [← h.1]; exact hr.up _ h.2⟩
theorem rda_one {w : World} {d a : V} {v : Value} (h : upV d = a ∧ plD d = true) (hr : RdA w (StA w) d v) : RdA w (StA w) a v := by
  obtain ⟨rfl, h2⟩ := h
  cases d <;> first | (cases h2; done) | exact Rd.up _ h2 hr
end Go.Proofs.Ytkcfahfladikkaa
