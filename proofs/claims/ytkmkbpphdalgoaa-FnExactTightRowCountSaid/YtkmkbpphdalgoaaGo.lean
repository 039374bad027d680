/-
  Rules by which the printed walks go, part 2: the operations. Over no program; no conditions.
-/
import Derived.Test.YtkmkbpphdalgoaaGr
namespace Go.Proofs.Ytkmkbpphdalgoaa
open Go.RowKit
set_option linter.unusedVariables false
section
variable {P : Program} {tb : Tb} {cns : List Nat} {σ : PS} {K : PS → Prop} {d s t : Nat} {c c1 c2 c3 : V} {x y z : Operand}
theorem evs {o : LO} {os : List LO} (h : evO P tb cns o σ (fun σ' => evS P tb cns os σ' K)) : evS P tb cns (o :: os) σ K := h
theorem evn (h : K σ) : evS P tb cns [] σ K := h
theorem evd {o : LO} {os : List LO} {R W : List Nat} {fps : List (List Nat × List Nat)} (h1 : (adP o.op).all (fun p => bas R (σ p)) = true) (h2 : (adU cns o).all (fun p => bas R (σ p)) = true) (h : evO P tb cns o σ (fun σ' => evD P tb cns fps os σ' K)) : evD P tb cns ((R, W) :: fps) (o :: os) σ K := ⟨h1, h2, h⟩
theorem evdn {fps : List (List Nat × List Nat)} (h : K σ) : evD P tb cns fps [] σ K := by cases fps <;> exact h
theorem ev_mv (hc : cns.contains d = false) (h : σ s = c) (hv : c.isVal = true) (k : K (upd σ d (dg c))) : evO P tb cns ⟨some d, .move (.tmp s), t, none⟩ σ K := by
  subst h
  simp only [evO, hc, Bool.false_eq_true, if_false, pureS, pc, pv, mvC, mvV]
  cases hs : σ s <;> rw [hs] at hv k <;> first | exact ⟨hv, k⟩ | cases hv
theorem ev_mvu {e : TypeId} {n : Nat} {cs : List V} (hc : cns.contains d = false) (h : σ s = .uni e n cs) (k : K (upd σ d (.same s))) : evO P tb cns ⟨some d, .move (.tmp s), t, none⟩ σ K := by
  simp only [evO, hc, Bool.false_eq_true, if_false, pureS, pc, pv, mvC, mvV, h]; exact ⟨trivial, k⟩
theorem ev_mvs {b : Nat} (hc : cns.contains d = false) (h : σ s = .same b) (k : K (upd σ d (.same b))) : evO P tb cns ⟨some d, .move (.tmp s), t, none⟩ σ K := by
  simp only [evO, hc, Bool.false_eq_true, if_false, pureS, pc, pv, mvC, mvV, h]; exact ⟨trivial, k⟩
theorem asg_val (h : σ s = c) (hv : c.isVal = true) {o : LO} (k : K (upd (upd σ s (dg c)) d c)) : asgS tb o (.tmp s) d σ K := by
  subst h
  unfold asgS
  simp only
  cases hs : σ s <;> rw [hs] at hv k <;> first | (refine ⟨hv, ?_⟩; simp only [takeS, hs]; exact k) | cases hv
/-- the value goes over -/
theorem ev_mvt (hc : cns.contains d = true) (h : σ s = c) (hv : c.isVal = true) (k : K (upd (upd σ s (dg c)) d c)) : evO P tb cns ⟨some d, .move (.tmp s), t, none⟩ σ K := by
  simp only [evO, hc, if_true]; exact ⟨trivial, asg_val h hv k⟩
theorem ev_mvtu {e : TypeId} {n : Nat} {cs : List V} (hc : cns.contains d = true) (h : σ s = .uni e n cs) (k : K (upd (upd (kill [s] σ) s (.dat n cs)) d (.own e n cs))) : evO P tb cns ⟨some d, .move (.tmp s), t, none⟩ σ K := by
  simp only [evO, hc, if_true, asgS, h]; exact ⟨trivial, k⟩
theorem ev_as (hc : cns.contains d = false) (h : σ s = c) (hv : c.isVal = true) (k : K (upd (upd σ s (dg c)) d c)) : evO P tb cns ⟨some d, .assign (.tmp s), t, none⟩ σ K := by
  simp only [evO, hc, Bool.false_eq_true, if_false]; exact ⟨trivial, asg_val h hv k⟩
theorem ev_asu {e : TypeId} {n : Nat} {cs : List V} (hc : cns.contains d = true) (h : σ s = .uni e n cs) (hn : notBox (kill [s] σ d) = true) (k : K (upd (kill [s] σ) d (.uni e n cs))) : evO P tb cns ⟨some d, .assign (.tmp s), t, none⟩ σ K := by
  simp only [evO, hc, if_true, asgU, h]; exact ⟨trivial, hn, k⟩
theorem ev_ac {v : Value} (hc : cns.contains d = false) (hn : v ≠ .slice none 0 0) (hv : (cV v).isVal = true) (k : K (upd σ d (cV v))) : evO P tb cns ⟨some d, .assign (.const v), t, none⟩ σ K := by
  simp only [evO, hc, Bool.false_eq_true, if_false]
  refine ⟨trivial, ?_⟩
  unfold asgS
  split
  · rename_i h; injection h with h; exact absurd h hn
  · rename_i h; cases h
  · exact ⟨hv, k⟩
theorem ev_an {e : TypeId} {a b : Nat} {ez : List V} (hc : cns.contains d = false) (ht : tb t = some (.sl e a b ez)) (k : K (upd σ d (.own e 0 []))) : evO P tb cns ⟨some d, .assign (.const (.slice none 0 0)), t, none⟩ σ K := by
  simp only [evO, hc, Bool.false_eq_true, if_false, asgS, ht]; exact ⟨trivial, k⟩
theorem ev_mc {v : Value} (hc : cns.contains d = false) (hv : (cV v).isVal = true) (k : K (upd σ d (dg (cV v)))) : evO P tb cns ⟨some d, .move (.const v), t, none⟩ σ K := by
  simp only [evO, hc, Bool.false_eq_true, if_false]; exact ⟨hv, k⟩
theorem ev_bin {op : BinOp} {ta tc : TypeId} (hx : opV σ x = c1) (hy : opV σ y = c2) (hc : binC (tb ta) op c1 c2) (k : K (upd σ d (binV op c1 c2))) : evO P tb cns ⟨some d, .binOp op ta x y tc, t, none⟩ σ K := by
  subst hx hy; exact ⟨hc, k⟩
theorem ev_un {op : UnOp} {ta : TypeId} (hx : opV σ x = c1) (hc : unC op c1) (k : K (upd σ d (unV op c1))) : evO P tb cns ⟨some d, .unOp op ta x, t, none⟩ σ K := by
  subst hx; exact ⟨hc, k⟩
theorem ev_cvi {a b : TypeId} {dd : TyD} {k0 k1 : IntKind} {n z : Int} (hx : opV σ x = .int k0 n) (h1 : tb a = some dd) (h2 : tb b = some (.sc (.int k1 z))) (k : K (upd σ d (.int k1 (k1.wrap n)))) : evO P tb cns ⟨some d, .convert a b x, t, none⟩ σ K := by
  refine ⟨?_, ?_⟩
  · simp only [pc, convC, hx, h1, h2]
  · simp only [pv, convV, hx, h2]; exact k
def cu8 (n : Int) : List V := [.int .u8 n]
def bytesOf (l : List Int) : List UInt8 := l.map fun n => UInt8.ofNat n.toNat
theorem ev_cvs {a b e : TypeId} {es eb : Nat} {ez : List V} {z : List UInt8} {z' : Int} {l : List Int} (hx : slOf (opV σ x) = some (l.length, l.flatMap cu8)) (h1 : tb a = some (.sl e es eb ez)) (h2 : tb b = some (.sc (.str z))) (h3 : tb e = some (.sc (.int .u8 z'))) (k : K (upd σ d (.str (bytesOf l)))) : evO P tb cns ⟨some d, .convert a b x, t, none⟩ σ K := by
  have e1 : (l.flatMap cu8).length = l.length := by rw [flat_len (n := 1) (fun _ => rfl)]; omega
  have e2 : (l.flatMap cu8).all isU8 = true := by rw [List.all_eq_true]; intro v hv; obtain ⟨n, _, hn⟩ := List.mem_flatMap.1 hv; simp only [cu8, List.mem_singleton] at hn; subst hn; rfl
  have e3 : (l.flatMap cu8).map byteV = bytesOf l := by
    clear hx e1 e2 k
    unfold bytesOf
    induction l with
    | nil => rfl
    | cons n l ih => rw [List.flatMap_cons, List.map_append, ih]; rfl
  refine ⟨?_, ?_⟩
  · simp only [pc, convC, h1, h2, h3, hx]
    cases hc : opV σ x <;> rw [hc] at hx <;> first | exact ⟨e1, e2⟩ | cases hx
  · simp only [pv, h2]
    rw [convV_sl hx, e3]; exact k
theorem ev_len {ta : TypeId} {e : TypeId} {es eb : Nat} {ez : List V} {n : Nat} {cs : List V} (hx : opV σ x = c1) (hs : slOf c1 = some (n, cs)) (ht : tb ta = some (.sl e es eb ez)) (k : K (upd σ d (.int .i64 n))) : evO P tb cns ⟨some d, .call { callee := .builtin .len, args := #[x], argTypes := #[ta] }, t, none⟩ σ K := by
  subst hx
  refine ⟨?_, ?_⟩
  · simp only [pc, pcCall, ht]
    cases hc : opV σ x <;> rw [hc] at hs <;> first | (simp only [lenSC, lenC, slOf]; done) | cases hs
  · simp only [pv, pvCall]
    cases hc : opV σ x <;> rw [hc] at hs <;> first | (simp only [slOf, Option.some.injEq, Prod.mk.injEq] at hs; simp only [lenS, lenV, slOf, hs.1]; exact k) | cases hs
theorem ev_lens {ta : TypeId} {z u : List UInt8} (hx : opV σ x = .str u) (ht : tb ta = some (.sc (.str []))) (k : K (upd σ d (.int .i64 u.length))) : evO P tb cns ⟨some d, .call { callee := .builtin .len, args := #[x], argTypes := #[ta] }, t, none⟩ σ K := by
  refine ⟨?_, ?_⟩
  · simp only [pc, pcCall, ht, hx, lenSC, lenC]
  · simp only [pv, pvCall, hx, lenS, lenV]; exact k
theorem ev_lenu {ta : TypeId} {b : Nat} {e e' : TypeId} {es eb n : Nat} {ez cs : List V} (hx : opV σ x = .same b) (hb : σ b = .uni e' n cs) (ht : tb ta = some (.sl e es eb ez)) (k : K (upd σ d (.int .i64 n))) : evO P tb cns ⟨some d, .call { callee := .builtin .len, args := #[x], argTypes := #[ta] }, t, none⟩ σ K := by
  refine ⟨?_, ?_⟩
  · simp only [pc, pcCall, ht, hx, lenSC, hb]
  · simp only [pv, pvCall, hx, lenS, hb]; exact k
theorem ev_max {ts : Array TypeId} {k0 k1 : IntKind} {a b : Int} (hx : opV σ x = .int k0 a) (hy : opV σ y = .int k1 b) (k : K (upd σ d (.int k0 (if a < b then b else a)))) : evO P tb cns ⟨some d, .call { callee := .builtin .max, args := #[x, y], argTypes := ts }, t, none⟩ σ K := by
  refine ⟨?_, ?_⟩
  · simp only [pc, pcCall, hx, hy, mxC]
  · simp only [pv, pvCall, hx, hy, mxV, if_true]; exact k
theorem ev_min {ts : Array TypeId} {k0 k1 : IntKind} {a b : Int} (hx : opV σ x = .int k0 a) (hy : opV σ y = .int k1 b) (k : K (upd σ d (.int k0 (if b < a then b else a)))) : evO P tb cns ⟨some d, .call { callee := .builtin .min, args := #[x, y], argTypes := ts }, t, none⟩ σ K := by
  refine ⟨?_, ?_⟩
  · simp only [pc, pcCall, hx, hy, mxC]
  · simp only [pv, pvCall, hx, hy, mxV, Bool.false_eq_true, if_false]; exact k
/-- a load out of a list's element -/
theorem ev_ldE {α : Type} {f : α → List V} {n off : Nat} {l : List α} {i : Int} {e : α} {dd : TyD} {v : V} (hc : cns.contains d = false) (hx : adV σ x = .adr (l.flatMap f) (i.toNat * n + off)) (hf : ∀ x, (f x).length = n) (hi : geti l i = some e) (ht : tb s = some dd) (ho : off + dd.size ≤ n) (hg : getCells dd (f e) off = v) (k : K (upd σ d v)) :
    evO P tb cns ⟨some d, .load s x, t, none⟩ σ K := by
  have h1 := get_cells hf (geti_some hi).2.2 ho
  simp only [evO, hc, Bool.false_eq_true, if_false, pureS, pc, pv, loadC', loadV', ht, hx, loadC, loadV, h1.1, hg]
  exact ⟨h1.2, k⟩
theorem ev_ldEt {α : Type} {f : α → List V} {n off : Nat} {l : List α} {i : Int} {e : α} {dd : TyD} {v : V} (hc : cns.contains d = true) (hx : adV σ x = .adr (l.flatMap f) (i.toNat * n + off)) (hf : ∀ x, (f x).length = n) (hi : geti l i = some e) (ht : tb s = some dd) (ho : off + dd.size ≤ n) (hg : getCells dd (f e) off = v) (k : K (upd σ d v)) :
    evO P tb cns ⟨some d, .load s x, t, none⟩ σ K := by
  have h1 := get_cells hf (geti_some hi).2.2 ho
  simp only [evO, hc, if_true, loadS, ht, hx, h1.1, hg]
  exact ⟨trivial, h1.2, k⟩
/-- a load out of a variable -/
theorem ev_ldB {b off : Nat} {cs : List V} {dd : TyD} {v : V} (hc : cns.contains d = false) (hx : adV σ x = .cref b off) (hb : bxOf (σ b) = some cs) (ht : tb s = some dd) (ho : off + dd.size ≤ cs.length) (hg : getCells dd cs off = v) (k : K (upd σ d v)) :
    evO P tb cns ⟨some d, .load s x, t, none⟩ σ K := by
  simp only [evO, hc, Bool.false_eq_true, if_false, pureS, pc, pv, loadC', loadV', ht, hx, loadC, loadV, hb, hg]
  exact ⟨ho, k⟩
theorem ev_ldBt {b off : Nat} {cs : List V} {dd : TyD} {v : V} {c' : V} (hc : cns.contains d = true) (hx : adV σ x = .cref b off) (hb : σ b = .box cs) (ht : tb s = some dd) (ho : off + dd.size ≤ cs.length) (hg : ownCells dd cs off = v) (hl : .box (leftCells dd.size cs off) = c') (k : K (upd (upd σ b c') d v)) :
    evO P tb cns ⟨some d, .load s x, t, none⟩ σ K := by
  simp only [evO, hc, if_true, loadS, ht, hx, hb, bxOf, hg, setBx, hl]
  exact ⟨trivial, ho, k⟩
/-- a load out of an element of a slice that may be written -/
theorem ev_ldU {α : Type} {f : α → List V} {n off b : Nat} {l : List α} {i : Int} {e : α} {et : TypeId} {m : Nat} {dd : TyD} {v : V} (hc : cns.contains d = false) (hx : adV σ x = .cref b (i.toNat * n + off)) (hb : σ b = .uni et m (l.flatMap f)) (hf : ∀ x, (f x).length = n) (hi : geti l i = some e) (ht : tb s = some dd) (ho : off + dd.size ≤ n) (hg : getCells dd (f e) off = v) (k : K (upd σ d v)) :
    evO P tb cns ⟨some d, .load s x, t, none⟩ σ K := by
  have h1 := get_cells hf (geti_some hi).2.2 ho
  exact ev_ldB hc hx (by rw [hb]; rfl) ht h1.2 (h1.1.trans hg) k
theorem ev_fa {n off sz f : Nat} {z : List V} {fs : List (Nat × Nat)} {v : V} (hx : adV σ x = c1) (ht : tb s = some (.st n z fs)) (hf : fs[f]? = some (off, sz)) (hc : faC σ c1) (hv : faV off c1 = v) (k : K (upd σ d v)) : evO P tb cns ⟨some d, .fieldAddr s x f, t, none⟩ σ K := by
  subst hx hv
  refine ⟨?_, ?_⟩
  · simp only [pc, faC', ht, hf]; exact hc
  · simp only [pv, faV', ht, hf]; exact k
theorem ev_ia {e : TypeId} {es eb n : Nat} {ez cs : List V} {kk : IntKind} {i : Int} (hx : slOf (opV σ x) = some (n, cs)) (hy : opV σ y = .int kk i) (ht : tb s = some (.sl e es eb ez)) (hi : 0 ≤ i ∧ i < n) (k : K (upd σ d (.adr cs (i.toNat * es)))) : evO P tb cns ⟨some d, .indexAddr s x y, t, none⟩ σ K := by
  have hns : ∀ b, opV σ x ≠ .same b := fun b h => by rw [h] at hx; cases hx
  have e1 : iaSC σ (opV σ x) (opV σ y) = iaC (opV σ x) (opV σ y) := by cases h : opV σ x <;> first | rfl | exact absurd h (hns _)
  have e2 : iaS σ es (opV σ x) (opV σ y) = iaV es (opV σ x) (opV σ y) := by cases h : opV σ x <;> first | rfl | exact absurd h (hns _)
  refine ⟨?_, ?_⟩
  · simp only [pc, iaC', ht]; rw [e1]; simp only [iaC, hx, hy, ixOf]; exact hi
  · simp only [pv, iaV', ht]; rw [e2]; simp only [iaV, hx, hy, ixOf]; exact k
theorem ev_iau {e e' : TypeId} {es eb n b : Nat} {ez cs : List V} {kk : IntKind} {i : Int} (hx : opV σ x = .same b) (hb : σ b = .uni e' n cs) (hy : opV σ y = .int kk i) (ht : tb s = some (.sl e es eb ez)) (hi : 0 ≤ i ∧ i < n) (k : K (upd σ d (.cref b (i.toNat * es)))) : evO P tb cns ⟨some d, .indexAddr s x y, t, none⟩ σ K := by
  refine ⟨?_, ?_⟩
  · simp only [pc, iaC', ht, iaSC, hx, hb, hy, ixOf]; exact hi
  · simp only [pv, iaV', ht, iaS, hx, hb, hy, ixOf]; exact k
theorem ev_six {u : List UInt8} {kk : IntKind} {i : Int} {b : UInt8} (hx : opV σ x = .str u) (hy : opV σ y = .int kk i) (ht : tb s = some (.sc (.str []))) (hi : geti u i = some b) (k : K (upd σ d (.int .u8 b.toNat))) : evO P tb cns ⟨some d, .index s x y, t, none⟩ σ K := by
  obtain ⟨h1, h2, h3⟩ := geti_some hi
  refine ⟨?_, ?_⟩
  · simp only [pc, ht, sixC, hx, hy, ixOf]; exact ⟨trivial, h1, h2⟩
  · simp only [pv, sixV, hx, hy, ixOf, h3]; exact k
theorem ev_sls {u : List UInt8} {lo hi : Option Operand} {l h : Int} (hx : opV σ x = .str u) (ht : tb s = some (.sc (.str []))) (h1 : bdOf 0 (lo.map (opV σ)) = some l) (h2 : bdOf u.length (hi.map (opV σ)) = some h) (hb : 0 ≤ l ∧ l ≤ h ∧ h ≤ u.length) (k : K (upd σ d (.str (subl u l h)))) : evO P tb cns ⟨some d, .slice s x lo hi none, t, none⟩ σ K := by
  refine ⟨?_, ?_⟩
  · simp only [pc, partC, ht, hx, h1, h2]; exact hb
  · simp only [pv, partV, ht, hx, h1, h2]; exact k
theorem sub_len {α : Type} {l : List α} {a b : Int} (h : 0 ≤ a ∧ a ≤ b ∧ b ≤ l.length) : (subl l a b).length = b.toNat - a.toNat := by
  unfold subl; rw [List.length_drop, List.length_take, Nat.min_eq_left (by omega)]
theorem ev_sle {α : Type} {f : α → List V} {e : TypeId} {es eb : Nat} {ez : List V} {lst : List α} {lo hi : Option Operand} {l h : Int} (hx : slOf (opV σ x) = some (lst.length, lst.flatMap f)) (ht : tb s = some (.sl e es eb ez)) (hf : ∀ x, (f x).length = es) (h1 : bdOf 0 (lo.map (opV σ)) = some l) (h2 : bdOf lst.length (hi.map (opV σ)) = some h) (hb : 0 ≤ l ∧ l ≤ h ∧ h ≤ lst.length)
    (k : K (upd σ d (.dat (subl lst l h).length ((subl lst l h).flatMap f)))) : evO P tb cns ⟨some d, .slice s x lo hi none, t, none⟩ σ K := by
  have e1 : partV (some (.sl e es eb ez)) (opV σ x) (lo.map (opV σ)) (hi.map (opV σ)) = .dat (subl lst l h).length ((subl lst l h).flatMap f) := by
    rw [sub_len hb]
    unfold subl
    rw [← flat_drop hf, ← flat_take hf]
    cases hc : opV σ x <;> rw [hc] at hx <;> first | (simp only [partV, hx, h1, h2]; done) | cases hx
  refine ⟨?_, ?_⟩
  · simp only [pc, ht]
    cases hc : opV σ x <;> rw [hc] at hx <;> first | (simp only [partC, hx, h1, h2]; exact ⟨hb.1, hb.2.1, hb.2.2, flat_len hf lst⟩) | cases hx
  · simp only [pv, ht, e1]; exact k
def erA (σ : PS) : List Operand → List V → Prop
  | [], as => as = []
  | x :: xs, as => ∃ a as', as = a :: as' ∧ (opV σ x).isArg = true ∧ er (opV σ x) = a ∧ erA σ xs as'
theorem era {as : List V} {a : V} {xs : List Operand} (h1 : (opV σ x).isArg = true) (h2 : er (opV σ x) = a) (h3 : erA σ xs as) : erA σ (x :: xs) (a :: as) := ⟨a, as, rfl, h1, h2, h3⟩
theorem eran : erA σ [] [] := rfl
theorem erA_ok : ∀ {xs : List Operand} {as : List V}, erA σ xs as → xs.all (fun x => (opV σ x).isArg) = true ∧ (xs.map fun x => er (opV σ x)) = as
  | [], _, h => ⟨rfl, (show _ = [] from h).symm⟩
  | x :: xs, _, ⟨a, as', e, h1, h2, h3⟩ => by
    obtain ⟨h4, h5⟩ := erA_ok h3
    rw [e, List.all_cons, h1, h4, List.map_cons, h2, h5]
    exact ⟨rfl, rfl⟩
theorem ev_call {f : FuncId} {args : Array Operand} {ts : Array TypeId} {dst : Option Nat} {as : List V} {r : V} (he : erA σ args.toList as) (hs : SoundAt P f as r) (k : K (putD σ dst r)) : evO P tb cns ⟨dst, .call { callee := .value (.func f), args := args, argTypes := ts }, t, none⟩ σ K := by
  obtain ⟨h1, h2⟩ := erA_ok he
  subst h2
  exact ⟨h1, r, hs, k⟩
theorem erD {α : Type} {f g : α → List V} (h : ∀ x, erL (f x) = g x) (l : List α) : er (.dat l.length (l.flatMap f)) = .dat l.length (l.flatMap g) := by rw [er, erL_flat h]
theorem erO {α : Type} {f g : α → List V} (h : ∀ x, erL (f x) = g x) (l : List α) {e : TypeId} : er (.own e l.length (l.flatMap f)) = .dat l.length (l.flatMap g) := by rw [er, erL_flat h]
theorem erG {α : Type} {f g : α → List V} (h : ∀ x, erL (f x) = g x) (l : List α) : er (.arg l.length (l.flatMap f)) = .dat l.length (l.flatMap g) := by rw [er, erL_flat h]
theorem erg {cs ds : List V} (h : erL cs = ds) : er (.agg cs) = .agg ds := by rw [er, h]
theorem erc {c a : V} {cs ds : List V} (h1 : er c = a) (h2 : erL cs = ds) : erL (c :: cs) = a :: ds := by rw [erL, h1, h2]
def ci64 (n : Int) : List V := [.int .i64 n]
def cu64 (n : Int) : List V := [.int .u64 n]
def cbl (b : Bool) : List V := [.bool b]
def cst (u : List UInt8) : List V := [.str u]
theorem zci64 (n : Int) : (ci64 n).length = 1 := rfl
theorem zcu64 (n : Int) : (cu64 n).length = 1 := rfl
theorem zcu8 (n : Int) : (cu8 n).length = 1 := rfl
theorem zcbl (n : Bool) : (cbl n).length = 1 := rfl
theorem zcst (n : List UInt8) : (cst n).length = 1 := rfl
theorem eci64 (n : Int) : erL (ci64 n) = ci64 n := rfl
theorem ecu64 (n : Int) : erL (cu64 n) = cu64 n := rfl
theorem ecu8 (n : Int) : erL (cu8 n) = cu8 n := rfl
theorem ecbl (n : Bool) : erL (cbl n) = cbl n := rfl
theorem ecst (n : List UInt8) : erL (cst n) = cst n := rfl
theorem map_dg {α : Type} {f g : α → List V} (h : ∀ x, (f x).map dg1 = g x) : ∀ l : List α, (l.flatMap f).map dg1 = l.flatMap g
  | [] => rfl
  | x :: l => by rw [List.flatMap_cons, List.map_append, h, List.flatMap_cons, map_dg h l]
theorem ev_ext {i : Nat} {cs cs' : List V} {v : V} (hs : σ s = .tup cs) (hi : cs[i]? = some v) (ha : cs.all V.isArg = true) (hl : cs.set i (dg2 v) = cs') (k : K (upd (upd σ s (.tup cs')) d v)) : evO P tb cns ⟨some d, .extract (.tmp s) i, t, none⟩ σ K := by
  simp only [evO, extS, hs, hi, hl]; exact ⟨trivial, ha, k⟩
/-- append: lists -/
theorem ev_app {α : Type} {f : α → List V} {e : TypeId} {es eb p q : Nat} {ez ds : List V} {l m : List α} (hx : σ p = .own e l.length (l.flatMap f)) (hy : opV (upd σ p (.dat l.length (l.flatMap f))) (.tmp q) = c2) (hs : slOf c2 = some (m.length, ds)) (hd : ds.length = m.length * es) (ht : tb s = some (.sl e es eb ez)) (ha : appY c2 = m.flatMap f) (hl : l.length + m.length ≤ lim) (hv : c2.isVal = true)
    (k : K (upd (upd (upd σ p (.dat l.length (l.flatMap f))) q (dg c2)) d (.own e (l ++ m).length ((l ++ m).flatMap f)))) : evO P tb cns ⟨some d, .call { callee := .builtin .append, args := #[.tmp p, .tmp q], argTypes := #[s, s] }, t, none⟩ σ K := by
  subst hy
  have e1 : takeS σ (.tmp p) = upd σ p (.dat l.length (l.flatMap f)) := by simp only [takeS, hx, dg, dg2, dg1]
  refine ⟨rfl, ?_⟩
  unfold appS
  have e2 : opV σ (.tmp p) = .own e l.length (l.flatMap f) := hx
  rw [ht, e2, e1, hs]
  refine ⟨rfl, rfl, hd, hl, ?_⟩
  rw [ha, ← List.flatMap_append, ← List.length_append]
  exact k
/-- a store into a variable -/
theorem ev_st {ty : TypeId} {b off : Nat} {cs cs' : List V} {dd : TyD} (hx : adV σ x = .cref b off) (hb : σ b = .box cs) (hy : σ s = c1) (ht : tb t = some dd) (ha : c1.isArg = true) (hn : (cellsV c1).length = dd.size) (ho : off + dd.size ≤ cs.length) (hr : repl cs off (cellsV c1) = cs') (k : K (upd (upd σ s (dg c1)) b (.box cs'))) :
    evO P tb cns ⟨none, .store t x (.tmp s), ty, none⟩ σ K := by
  subst hy
  simp only [evO, stoS, ht, hx, hb, bxOf, setBx]
  refine ⟨trivial, ha, hn, ho, ?_⟩
  rw [show opV σ (.tmp s) = σ s from rfl, hr]
  exact k
theorem ev_stc {ty : TypeId} {b off : Nat} {cs cs' : List V} {dd : TyD} {v : Value} (hx : adV σ x = .cref b off) (hb : σ b = .box cs) (ht : tb t = some dd) (ha : (cV v).isArg = true) (hn : (cellsV (cV v)).length = dd.size) (ho : off + dd.size ≤ cs.length) (hr : repl cs off (cellsV (cV v)) = cs') (k : K (upd σ b (.box cs'))) :
    evO P tb cns ⟨none, .store t x (.const v), ty, none⟩ σ K := by
  simp only [evO, stoS, ht, hx, hb, bxOf, setBx]
  refine ⟨trivial, ha, hn, ho, ?_⟩
  rw [show opV σ (.const v) = cV v from rfl, hr]
  exact k
/-- a store into an element of a slice that may be written -/
theorem ev_stu {ty : TypeId} {α : Type} {f : α → List V} {n b : Nat} {l : List α} {i : Int} {e : α} {et : TypeId} {dd : TyD} (hx : adV σ x = .cref b (i.toNat * n)) (hb : σ b = .uni et l.length (l.flatMap f)) (hf : ∀ x, (f x).length = n) (hi : 0 ≤ i ∧ i < l.length) (hy : opV σ y = c1) (ht : tb t = some dd) (ha : c1.isArg = true) (hn : n = dd.size) (hc : cellsV c1 = f e)
    (k : K (upd (takeS σ y) b (.uni et (seti l i e).length ((seti l i e).flatMap f)))) : evO P tb cns ⟨none, .store t x y, ty, none⟩ σ K := by
  subst hy hn
  have hk : i.toNat < l.length := by omega
  simp only [evO, stoS, ht, hx, hb, bxOf, setBx]
  refine ⟨trivial, ha, by rw [hc, hf], ?_, ?_⟩
  · rw [flat_len hf]
    have : i.toNat * dd.size + dd.size ≤ l.length * dd.size := by rw [← Nat.succ_mul]; exact Nat.mul_le_mul_right _ hk
    omega
  · rw [hc, repl_flat hf hk]
    have e1 : (seti l i e).length = l.length := by unfold seti; rw [List.length_set]
    rw [e1] at k
    exact k
theorem ev_al {dd : TyD} (hn : notBox (σ d) = true) (ht : tb s = some dd) (k : K (upd σ d (.box (zeroL dd)))) : evO P tb cns ⟨some d, .alloc s, t, none⟩ σ K := by
  simp only [evO, allocS, ht]; exact ⟨trivial, hn, k⟩
theorem ev_bx {ty : TypeId} (hx : σ s = c1) (ha : c1.isArg = true) (hn : notBox (upd σ s (dg c1) d) = true) (k : K (upd (upd σ s (dg c1)) d (.box (cellsV c1)))) : evO P tb cns ⟨some d, .box ty (.tmp s), t, none⟩ σ K := by
  subst hx
  exact ⟨rfl, ha, hn, k⟩
/-- the parts of a struct or a slice, by their values -/
def okV (σ : PS) : List (Nat × Operand) → List V → Prop
  | [], vs => vs = []
  | (_, x) :: ps, vs => ∃ v vs', vs = v :: vs' ∧ opV σ x = v ∧ okV (takeS σ x) ps vs'
/-- what is left of the slots -/
def tkP (σ : PS) : List (Nat × Operand) → List V → PS
  | [], _ => σ
  | (_, .tmp s) :: ps, v :: vs => tkP (upd σ s (dg v)) ps vs
  | _ :: ps, _ :: vs => tkP σ ps vs
  | _, [] => σ
def okVs (σ : PS) : List (Nat × Operand) → List V → Prop
  | [], [] => True
  | (_, x) :: ps, v :: vs => opV σ x = v ∧ okVs (tkP σ [(0, x)] [v]) ps vs
  | _, _ => False
def fillC (place : Nat → Option (Nat × Nat)) : List (Nat × Operand) → List V → List V → Option (List V)
  | [], _, cs => some cs
  | (i, _) :: r, v :: vs, cs => match place i with
    | some (off, sz) => if v.isArg = true ∧ (cellsV v).length = sz ∧ off + sz ≤ cs.length then fillC place r vs (repl cs off (cellsV v)) else none
    | none => none
  | _, [], _ => none
theorem tk_take {x : Operand} {v : V} (h : opV σ x = v) : tkP σ [(0, x)] [v] = takeS σ x := by
  cases x with
  | tmp s => simp only [tkP, takeS]; rw [← h]; rfl
  | _ => rfl
theorem tkP_cons {i : Nat} {x : Operand} {ps : List (Nat × Operand)} {v : V} {vs : List V} {σ : PS} : tkP σ ((i, x) :: ps) (v :: vs) = tkP (tkP σ [(0, x)] [v]) ps vs := by
  cases x <;> cases ps <;> cases vs <;> rfl
theorem fill_vals {place : Nat → Option (Nat × Nat)} : ∀ {ps : List (Nat × Operand)} {vs : List V} {σ : PS} {z cs : List V}, okVs σ ps vs → fillC place ps vs z = some cs → fillP place ps σ z = some (tkP σ ps vs, cs)
  | [], [], σ, z, cs, _, h => by simp only [fillC, Option.some.injEq] at h; subst h; rfl
  | [], _ :: _, _, _, _, h, _ => h.elim
  | (i, x) :: ps, [], _, _, _, h, _ => h.elim
  | (i, x) :: ps, v :: vs, σ, z, cs, ⟨h1, h2⟩, h => by
    rw [tk_take h1] at h2
    simp only [fillC] at h
    simp only [fillP, h1]
    cases hp : place i with
    | none => rw [hp] at h; cases h
    | some q =>
      obtain ⟨off, sz⟩ := q
      rw [hp] at h
      simp only at h ⊢
      split at h
      · rename_i hc
        rw [if_pos hc, tkP_cons, tk_take h1]
        exact fill_vals h2 h
      · cases h
theorem ev_bd {n : Nat} {z : List V} {fs : List (Nat × Nat)} {ps : Array (Nat × Operand)} (vs : List V) {cs : List V} (ht : tb s = some (.st n z fs)) (hv : okVs σ ps.toList vs) (hf : fillC (fun i => fs[i]?) ps.toList vs z = some cs) (k : K (upd (tkP σ ps.toList vs) d (.agg cs))) : evO P tb cns ⟨some d, .build s ps, t, none⟩ σ K := by
  simp only [evO, buildS, ht, fill_vals hv hf]; exact ⟨trivial, k⟩
theorem ev_bs {e : TypeId} {es eb n : Nat} {ez : List V} {ps : Array (Nat × Operand)} (vs : List V) {cs : List V} (ht : tb s = some (.sl e es eb ez)) (hv : okVs σ ps.toList vs) (hf : fillC (fun i => some (i * es, es)) ps.toList vs (zrow ez es n) = some cs) (h1 : n * es ≤ 16777216) (h2 : cs.length = n * es) (k : K (upd (tkP σ ps.toList vs) d (.own e n cs))) : evO P tb cns ⟨some d, .buildSlice s n ps, t, none⟩ σ K := by
  simp only [evO, bslS, ht, fill_vals hv hf]; exact ⟨trivial, h1, h2, k⟩
theorem ev_mk {α : Type} {f : α → List V} {z : α} {e : TypeId} {es eb : Nat} {ez : List V} {k0 k1 : IntKind} {n : Int} (hc : cns.contains d = false) (hx : opV σ x = .int k0 n) (hy : opV σ y = .int k1 n) (ht : tb s = some (.sl e es eb ez)) (hz : f z = ez) (hez : ez.length = es) (hn : 0 ≤ n ∧ n.toNat ≤ lim) (k : K (upd σ d (.own e (List.replicate n.toNat z).length ((List.replicate n.toNat z).flatMap f)))) : evO P tb cns ⟨some d, .makeSlice s x y, t, none⟩ σ K := by
  simp only [evO, hc, Bool.false_eq_true, if_false, makeS, ht, hx, hy]
  refine ⟨trivial, hn.1, trivial, hn.2, ?_⟩
  rw [zrow_flat hz hez]
  rw [List.length_replicate] at k
  exact k
theorem ev_mku {α : Type} {f : α → List V} {z : α} {e : TypeId} {es eb : Nat} {ez : List V} {k0 k1 : IntKind} {n : Int} (hc : cns.contains d = true) (hx : opV σ x = .int k0 n) (hy : opV σ y = .int k1 n) (ht : tb s = some (.sl e es eb ez)) (hz : f z = ez) (hez : ez.length = es) (hn : 0 ≤ n ∧ n.toNat ≤ lim) (hb : notBox (σ d) = true) (k : K (upd σ d (.uni e (List.replicate n.toNat z).length ((List.replicate n.toNat z).flatMap f)))) : evO P tb cns ⟨some d, .makeSlice s x y, t, none⟩ σ K := by
  simp only [evO, hc, if_true, makeU, ht, hx, hy]
  refine ⟨trivial, hn.1, trivial, hn.2, hb, ?_⟩
  rw [zrow_flat hz hez]
  rw [List.length_replicate] at k
  exact k
theorem ev_pkT {b : Bool} (hb : opV σ x = .bool b) (e : b = true) (hy : opV σ y = c1) (hv : c1.isVal = true) (k : K (upd σ d (dg c1))) : evO P tb cns ⟨some d, .pick x y z, t, none⟩ σ K := by
  subst hy e
  refine ⟨?_, ?_⟩
  · simp only [pc, pickC, hb, if_true]; exact hv
  · simp only [pv, pickV, hb, if_true]; exact k
theorem ev_pkF {b : Bool} (hb : opV σ x = .bool b) (e : b = false) (hy : opV σ z = c1) (hv : c1.isVal = true) (k : K (upd σ d (dg c1))) : evO P tb cns ⟨some d, .pick x y z, t, none⟩ σ K := by
  subst hy e
  refine ⟨?_, ?_⟩
  · simp only [pc, pickC, hb, Bool.false_eq_true, if_false]; exact hv
  · simp only [pv, pickV, hb, Bool.false_eq_true, if_false]; exact k
/-- operations that can bear a guard -/
def gOp (cns : List Nat) (d : Nat) : Op → Bool
  | .move _ => !cns.contains d
  | .load _ _ => !cns.contains d
  | .pick .. | .binOp .. | .unOp .. | .convert .. | .fieldAddr .. | .indexAddr .. | .index .. | .slice .. => true
  | .call c => match c.callee with
    | .builtin .append => false
    | _ => true
  | _ => false
theorem ev_gs {op : Op} {q : Nat} {b : Bool} (hg : gOp cns d op = true) (hk : known (σ q) = true) (hq : isB b (σ q) = false) (k : K (upd σ d (.tup []))) : evO P tb cns ⟨some d, op, t, some (some q, b)⟩ σ K := by
  have hp : pureS tb ⟨some d, op, t, some (some q, b)⟩ σ K := by
    simp only [pureS]; exact ⟨hk, fun e => absurd e (by rw [hq]; simp), fun _ => k⟩
  cases op <;> first | (cases hg; done) | exact hp | skip
  case move x => simp only [gOp, Bool.not_eq_true'] at hg; simp only [evO, hg, Bool.false_eq_true, if_false]; exact hp
  case load s x => simp only [gOp, Bool.not_eq_true'] at hg; simp only [evO, hg, Bool.false_eq_true, if_false]; exact hp
  case call c =>
    obtain ⟨cal, args, ts⟩ := c
    simp only [evO, callS']
    split
    · unfold callS; exact ⟨hk, fun e => absurd e (by rw [hq]; simp), fun _ => k⟩
    · simp only [gOp] at hg; cases hg
    · exact hp
theorem ev_gr {op : Op} {q : Nat} {b : Bool} (hg : gOp cns d op = true) (hq : σ q = .bool b) (h : evO P tb cns ⟨some d, op, t, none⟩ σ K) : evO P tb cns ⟨some d, op, t, some (some q, b)⟩ σ K := by
  have hk : known (σ q) = true := by rw [hq]; rfl
  have hb : isB b (σ q) = true := by rw [hq]; simp [isB]
  have hp : pureS tb ⟨some d, op, t, none⟩ σ K → pureS tb ⟨some d, op, t, some (some q, b)⟩ σ K := by
    intro h; simp only [pureS] at *; exact ⟨hk, fun _ => h, fun e => by rw [hb] at e; cases e⟩
  cases op <;> first | (cases hg; done) | exact hp h | skip
  case move x => simp only [gOp, Bool.not_eq_true'] at hg; simp only [evO, hg, Bool.false_eq_true, if_false] at h ⊢; exact hp h
  case load s x => simp only [gOp, Bool.not_eq_true'] at hg; simp only [evO, hg, Bool.false_eq_true, if_false] at h ⊢; exact hp h
  case call c =>
    obtain ⟨cal, args, ts⟩ := c
    simp only [evO, callS'] at h ⊢
    split at h
    · unfold callS at h ⊢; exact ⟨hk, fun _ => h, fun e => absurd e (by rw [hb]; simp)⟩
    · simp only [gOp] at hg; cases hg
    · exact hp h
theorem isb_F {e : Bool} (g : e = false) : isB true (.bool e) = false := by rw [g]; rfl
theorem isb_T {e : Bool} (g : e = true) : isB false (.bool e) = false := by rw [g]; rfl
end
section
variable {P : Program} {nt : Nat} {bx : List Nat} {σ : PS} {Q : Exit → PS → Prop} {tb : Tb} {cns : List Nat}
theorem ls_rs_k {ops : List LO} {y : LC} (htb : TbOk P tb) (h : ∀ K : PS → Prop, (∀ σ', LS P nt bx y σ' Q → K σ') → evS P tb cns ops σ K) : LS P nt bx (.seq (.rgn cns ops) y) σ Q := ls_rs htb (h _ fun _ h => h)
theorem ls_rd_k {fps : List (List Nat × List Nat)} {es : List (List Nat)} {ops : List LO} {y : LC} (htb : TbOk P tb) (hm : P.follows .mixedOrders = true) (hD : (okD fps es && okF cns fps ops) = true) (h : ∀ K : PS → Prop, (∀ σ', LS P nt bx y σ' Q → K σ') → evD P tb cns fps ops σ K) : LS P nt bx (.seq (.drw cns fps es ops) y) σ Q := ls_rd htb hm hD (h _ fun _ h => h)
end
def andI (a b : Int) : Int := IntKind.i64.wrap ((BitVec.ofInt IntKind.i64.bits a &&& BitVec.ofInt IntKind.i64.bits b).toNat : Int)
def orI (a b : Int) : Int := IntKind.i64.wrap ((BitVec.ofInt IntKind.i64.bits a ||| BitVec.ofInt IntKind.i64.bits b).toNat : Int)
def xorI (a b : Int) : Int := IntKind.i64.wrap ((BitVec.ofInt IntKind.i64.bits a ^^^ BitVec.ofInt IntKind.i64.bits b).toNat : Int)
def andNotI (a b : Int) : Int := IntKind.i64.wrap ((BitVec.ofInt IntKind.i64.bits a &&& ~~~BitVec.ofInt IntKind.i64.bits b).toNat : Int)
def shlI (a b : Int) : Int := IntKind.i64.wrap (a * 2 ^ (min b.toNat IntKind.i64.bits))
def shrI (a b : Int) : Int := a.fdiv (2 ^ (min b.toNat IntKind.i64.bits))
end Go.Proofs.Ytkmkbpphdalgoaa
