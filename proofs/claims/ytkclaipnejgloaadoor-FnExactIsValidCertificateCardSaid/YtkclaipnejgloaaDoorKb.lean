/-
  A machine on data, part 2: code, the rules of the printed walks, loops. Over no program; no conditions.
-/
import Derived.Test.YtkclaipnejgloaaDoorKp
namespace Go.Proofs.YtkclaipnejgloaaDoor
open Go.RowKit
set_option linter.unusedVariables false
theorem p2 {α β : Type} {a a' : α} {b b' : β} (h : (a, b) = (a', b')) : a = a' ∧ b = b' := Prod.mk.inj h
theorem p3 {α β γ : Type} {a a' : α} {b b' : β} {c c' : γ} (h : (a, b, c) = (a', b', c')) : a = a' ∧ b = b' ∧ c = c' := ⟨(p2 h).1, p2 (p2 h).2⟩
theorem p4 {α β γ δ : Type} {a a' : α} {b b' : β} {c c' : γ} {d d' : δ} (h : (a, b, c, d) = (a', b', c', d')) : a = a' ∧ b = b' ∧ c = c' ∧ d = d' := ⟨(p2 h).1, p3 (p2 h).2⟩
theorem p5 {α β γ δ ε : Type} {a a' : α} {b b' : β} {c c' : γ} {d d' : δ} {e e' : ε} (h : (a, b, c, d, e) = (a', b', c', d', e')) : a = a' ∧ b = b' ∧ c = c' ∧ d = d' ∧ e = e' := ⟨(p2 h).1, p4 (p2 h).2⟩
theorem p6 {α β γ δ ε ζ : Type} {a a' : α} {b b' : β} {c c' : γ} {d d' : δ} {e e' : ε} {f f' : ζ} (h : (a, b, c, d, e, f) = (a', b', c', d', e', f')) : a = a' ∧ b = b' ∧ c = c' ∧ d = d' ∧ e = e' ∧ f = f' := ⟨(p2 h).1, p5 (p2 h).2⟩
section
variable {P : Program} {tb : Tb} {cns : List Nat} {σ : PS} {K : PS → Prop} {d s t : Nat} {x y z : Operand}
theorem oM (c : V) (h : (cns.contains d, σ s, c.isVal) = (false, c, true)) (k : K (upd σ d (dg c))) : evO P tb cns ⟨some d, .move (.tmp s), t, none⟩ σ K := ev_mv (p3 h).1 (p3 h).2.1 (p3 h).2.2 k
theorem oT (c : V) (h : (cns.contains d, σ s, c.isVal) = (true, c, true)) (k : K (upd (upd σ s (dg c)) d c)) : evO P tb cns ⟨some d, .move (.tmp s), t, none⟩ σ K := ev_mvt (p3 h).1 (p3 h).2.1 (p3 h).2.2 k
theorem oA (c : V) (h : (cns.contains d, σ s, c.isVal) = (false, c, true)) (k : K (upd (upd σ s (dg c)) d c)) : evO P tb cns ⟨some d, .assign (.tmp s), t, none⟩ σ K := ev_as (p3 h).1 (p3 h).2.1 (p3 h).2.2 k
theorem oB {op : BinOp} {ta tc : TypeId} (c1 c2 : V) (h : (opV σ x, opV σ y) = (c1, c2)) (hc : binC (tb ta) op c1 c2) (k : K (upd σ d (binV op c1 c2))) : evO P tb cns ⟨some d, .binOp op ta x y tc, t, none⟩ σ K := ev_bin (p2 h).1 (p2 h).2 hc k
theorem oN {ta : TypeId} {e : TypeId} {es eb : Nat} {ez : List V} {n : Nat} {cs : List V} (c : V) (h : (opV σ x, slOf c, tb ta) = (c, some (n, cs), some (.sl e es eb ez))) (k : K (upd σ d (.int .i64 n))) : evO P tb cns ⟨some d, .call { callee := .builtin .len, args := #[x], argTypes := #[ta] }, t, none⟩ σ K := ev_len (p3 h).1 (p3 h).2.1 (p3 h).2.2 k
theorem oL1 {b : Nat} {cs : List V} {dd : TyD} (off : Nat) (v : V) (h : (cns.contains d, adV σ x, bxOf (σ b), tb s, Nat.ble (off + dd.size) cs.length, getCells dd cs off) = (false, .cref b off, some cs, some dd, true, v)) (k : K (upd σ d v)) : evO P tb cns ⟨some d, .load s x, t, none⟩ σ K := ev_ldB (p6 h).1 (p6 h).2.1 (p6 h).2.2.1 (p6 h).2.2.2.1 (nb (p6 h).2.2.2.2.1) (p6 h).2.2.2.2.2 k
theorem oF {n sz f : Nat} {z : List V} {fs : List (Nat × Nat)} {off : Nat} (b o : Nat) (h : (adV σ x, tb s, fs[f]?) = (.cref b o, some (.st n z fs), some (off, sz))) (hc : faC σ (.cref b o)) (k : K (upd σ d (faV off (.cref b o)))) : evO P tb cns ⟨some d, .fieldAddr s x f, t, none⟩ σ K := ev_fa (p3 h).1 (p3 h).2.1 (p3 h).2.2 hc rfl k
theorem oGT {op : Op} {q : Nat} {e : Bool} (g : e = true) (h : (gOp cns d op, σ q) = (true, .bool e)) (k : K (upd σ d (.tup []))) : evO P tb cns ⟨some d, op, t, some (some q, false)⟩ σ K := by
 subst g; obtain ⟨h1, h2⟩ := p2 h; exact ev_gs h1 (by rw [h2]; rfl) (by rw [h2]; rfl) k
theorem oGF {op : Op} {q : Nat} {e : Bool} (g : e = false) (h : (gOp cns d op, σ q) = (true, .bool e)) (k : K (upd σ d (.tup []))) : evO P tb cns ⟨some d, op, t, some (some q, true)⟩ σ K := by
 subst g; obtain ⟨h1, h2⟩ := p2 h; exact ev_gs h1 (by rw [h2]; rfl) (by rw [h2]; rfl) k
theorem oGR {op : Op} {q : Nat} {e b : Bool} (g : e = b) (h : (gOp cns d op, σ q) = (true, .bool e)) (k : evO P tb cns ⟨some d, op, t, none⟩ σ K) : evO P tb cns ⟨some d, op, t, some (some q, b)⟩ σ K := by
 subst g; obtain ⟨h1, h2⟩ := p2 h; exact ev_gr h1 h2 k
theorem oPT {b : Bool} (c : V) (e : b = true) (h : (opV σ x, opV σ y, c.isVal) = (.bool b, c, true)) (k : K (upd σ d (dg c))) : evO P tb cns ⟨some d, .pick x y z, t, none⟩ σ K := ev_pkT (p3 h).1 e (p3 h).2.1 (p3 h).2.2 k
theorem oPF {b : Bool} (c : V) (e : b = false) (h : (opV σ x, opV σ z, c.isVal) = (.bool b, c, true)) (k : K (upd σ d (dg c))) : evO P tb cns ⟨some d, .pick x y z, t, none⟩ σ K := ev_pkF (p3 h).1 e (p3 h).2.1 (p3 h).2.2 k
theorem oS {ty : TypeId} {b : Nat} {cs : List V} {dd : TyD} (off : Nat) (c : V) (cs' : List V) (h : (adV σ x, σ b, σ s, tb t, c.isArg, ((cellsV c).length == dd.size && Nat.ble (off + dd.size) cs.length)) = (.cref b off, .box cs, c, some dd, true, true)) (hr : repl cs off (cellsV c) = cs') (k : K (upd (upd σ s (dg c)) b (.box cs'))) :
    evO P tb cns ⟨none, .store t x (.tmp s), ty, none⟩ σ K := by
 obtain ⟨h1, h2, h3, h4, h5, h6⟩ := p6 h
 simp only [Bool.and_eq_true, beq_iff_eq] at h6
 exact ev_st h1 h2 h3 h4 h5 h6.1 (nb h6.2) hr k
theorem oX {ty : TypeId} (c : V) (h : (σ s, c.isArg, notBox (upd σ s (dg c) d)) = (c, true, true)) (k : K (upd (upd σ s (dg c)) d (.box (cellsV c)))) : evO P tb cns ⟨some d, .box ty (.tmp s), t, none⟩ σ K := ev_bx (p3 h).1 (p3 h).2.1 (p3 h).2.2 k
theorem oC {v : Value} (hn : v ≠ .slice none 0 0) (h : (cns.contains d, (cV v).isVal) = (false, true)) (k : K (upd σ d (cV v))) : evO P tb cns ⟨some d, .assign (.const v), t, none⟩ σ K := ev_ac (p2 h).1 hn (p2 h).2 k
theorem ed {o : LO} {os : List LO} {R W : List Nat} {fps : List (List Nat × List Nat)} (h : (adOk R W o.op σ, adB cns R o σ) = (true, true)) (k : evO P tb cns o σ (fun σ' => evD P tb cns fps os σ' K)) : evD P tb cns ((R, W) :: fps) (o :: os) σ K := evd (p2 h).1 (p2 h).2 k
theorem eE {α : Type} {f g : α → List V} (h : ∀ x, erL (f x) = g x) (l : List α) : er (dL f l) = dL g l := erD h l
end
def vA (σ : PS) : List (Nat × V) → List V
  | [] => []
  | (s, _) :: L => σ s :: vA σ L
def vB : List (Nat × V) → List V
  | [] => []
  | (_, c) :: L => c :: vB L
theorem okr {σ : PS} : ∀ {L : List (Nat × V)}, vA σ L = vB L → okK σ L
  | [], _ => trivial
  | (s, c) :: L, h => by
    injection h with h1 h2
    exact ⟨h1 ▸ kr, okr h2⟩
section
variable {P : Program} {nt : Nat} {bx : List Nat} {σ : PS} {Q : Exit → PS → Prop} {tb : Tb} {cns : List Nat}
theorem kp {l : LC} (L : List (Nat × V)) (h1 : vA σ L = vB L) (h2 : okR L = true) (h : LS P nt bx l (ofL L) Q) : LS P nt bx l σ Q := ls_keep L (okr h1) h2 h
theorem kq {l : LC} (L : List (Nat × V)) (h1 : okK σ L) (h2 : okR L = true) (h : LS P nt bx l (ofL L) Q) : LS P nt bx l σ Q := ls_keep L h1 h2 h
theorem en {l : LC} (L : List (Nat × V)) (h1 : vA σ L = vB L) (h2 : okR L = true) (h : LS P nt bx l (ofL L) Q) : evS P tb cns [] σ (fun σ' => LS P nt bx l σ' Q) := ls_keep L (okr h1) h2 h
end
end Go.Proofs.YtkclaipnejgloaaDoor

namespace Go.Proofs.YtkclaipnejgloaaDoor
open Go.RowKit
set_option linter.unusedVariables false
abbrev PL := List (Nat × V)
def ifB {α : Type} (b : Bool) (x : Option α) : Option α := match b with
  | true => x
  | false => none
theorem if_some {α : Type} {b : Bool} {x : Option α} {r : α} (h : ifB b x = some r) : b = true ∧ x = some r := by
  cases b with
  | true => exact ⟨rfl, h⟩
  | false => cases h
def frc1 : V → Option V
  | .int k n => some (.int k n)
  | .bool b => some (.bool b)
  | .str s => some (.str s)
  | .own e n cs => some (.own e n cs)
  | .dat n cs => some (.dat n cs)
  | .arg n cs => some (.arg n cs)
  | .pin u n cs => some (.pin u n cs)
  | .fn f => some (.fn f)
  | .tok u => some (.tok u)
  | _ => none
def frcC : List V → Option (List V)
  | [] => some []
  | c :: cs => obind (frc1 c) fun a => obind (frcC cs) fun as => some (a :: as)
def frc2 : V → Option V
  | .agg cs => obind (frcC cs) fun as => some (.agg as)
  | c => frc1 c
def frcT : List V → Option (List V)
  | [] => some []
  | c :: cs => obind (frc2 c) fun a => obind (frcT cs) fun as => some (a :: as)
def frc : V → Option V
  | .tup cs => obind (frcT cs) fun as => some (.tup as)
  | .box cs => obind (frcC cs) fun as => some (.box as)
  | .cref s o => some (.cref s o)
  | .adr cs o => some (.adr cs o)
  | .same s => some (.same s)
  | .uni e n cs => some (.uni e n cs)
  | c => frc2 c
theorem frc1_eq {c d : V} (h : frc1 c = some d) : d = c := by cases c <;> first | (cases h; rfl) | cases h
theorem frcC_eq : ∀ {cs ds : List V}, frcC cs = some ds → ds = cs
  | [], _, h => by cases h; rfl
  | c :: cs, _, h => by
    rw [frcC] at h
    obtain ⟨a, h1, h⟩ := ob_some h
    obtain ⟨as, h2, h⟩ := ob_some h
    cases h; rw [frc1_eq h1, frcC_eq h2]
theorem frc2_eq {c d : V} (h : frc2 c = some d) : d = c := by
  cases c with
  | agg cs => obtain ⟨as, h2, h⟩ := ob_some (show obind (frcC cs) _ = _ from h); cases h; rw [frcC_eq h2]
  | _ => exact frc1_eq h
theorem frcT_eq : ∀ {cs ds : List V}, frcT cs = some ds → ds = cs
  | [], _, h => by cases h; rfl
  | c :: cs, _, h => by
    rw [frcT] at h
    obtain ⟨a, h1, h⟩ := ob_some h
    obtain ⟨as, h2, h⟩ := ob_some h
    cases h; rw [frc2_eq h1, frcT_eq h2]
theorem frc_eq {c d : V} (h : frc c = some d) : d = c := by
  cases c with
  | tup cs => obtain ⟨as, h2, h⟩ := ob_some (show obind (frcT cs) _ = _ from h); cases h; rw [frcT_eq h2]
  | box cs => obtain ⟨as, h2, h⟩ := ob_some (show obind (frcC cs) _ = _ from h); cases h; rw [frcC_eq h2]
  | cref s o => cases h; rfl
  | adr s o => cases h; rfl
  | same s => cases h; rfl
  | uni e n cs => cases h; rfl
  | _ => exact frc2_eq h
def lk : PL → Nat → Option V
  | [], _ => none
  | (s, c) :: L, q => match Nat.beq q s with
    | true => some c
    | false => lk L q
theorem ofL_cons (s : Nat) (c : V) (L : PL) : ofL ((s, c) :: L) = upd (ofL L) s c := rfl
theorem lk_get : ∀ (L : PL) (q : Nat), ofL L q = (lk L q).getD .undef
  | [], _ => rfl
  | (s, c) :: L, q => by
    rw [lk, ofL_cons]
    cases h : Nat.beq q s with
    | true => rw [Nat.eq_of_beq_eq_true h, upd_same]; rfl
    | false => rw [upd_ne _ _ (Nat.ne_of_beq_eq_false h)]; exact lk_get L q
theorem lk_ok {L : PL} {q : Nat} {c : V} (h : lk L q = some c) : ofL L q = c := by rw [lk_get, h]; rfl
def opO (L : PL) : Operand → Option V
  | .tmp s => lk L s
  | .const v => frc (cV v)
  | .func f => some (.fn f)
  | _ => none
theorem opO_ok {L : PL} {x : Operand} {c : V} (h : opO L x = some c) : opV (ofL L) x = c := by
  cases x with
  | tmp s => exact lk_ok h
  | const v => exact (frc_eq h).symm
  | func f => cases h; rfl
  | _ => cases h
def adO (L : PL) : Operand → Option V
  | .tmp s => obind (lk L s) fun c => match c with
    | .box _ => some (.cref s 0)
    | c => some c
  | .global g => frc (layV g)
  | _ => none
theorem adO_ok {L : PL} {x : Operand} {c : V} (h : adO L x = some c) : adV (ofL L) x = c := by
  cases x with
  | tmp s =>
    obtain ⟨a, h1, h⟩ := ob_some (show obind (lk L s) _ = _ from h)
    have := lk_ok h1
    simp only [adV, this]
    cases a <;> (cases h; rfl)
  | global g => exact (frc_eq h).symm
  | _ => cases h
def own1 : V → Bool
  | .own .. => true
  | _ => false
def own2 : V → Bool
  | .agg cs => cs.any own1
  | c => own1 c
def ownV : V → Bool
  | .tup cs => cs.any own2
  | c => own2 c
theorem own1_dg {c : V} (h : own1 c = false) : dg1 c = c := by cases c <;> first | rfl | cases h
theorem own1_map : ∀ {cs : List V}, cs.any own1 = false → cs.map dg1 = cs
  | [], _ => rfl
  | c :: cs, h => by
    rw [List.any_cons, Bool.or_eq_false_iff] at h
    rw [List.map_cons, own1_dg h.1, own1_map h.2]
theorem own2_dg {c : V} (h : own2 c = false) : dg2 c = c := by
  cases c with
  | agg cs => rw [dg2, own1_map h]
  | _ => first | rfl | cases h
theorem own2_map : ∀ {cs : List V}, cs.any own2 = false → cs.map dg2 = cs
  | [], _ => rfl
  | c :: cs, h => by
    rw [List.any_cons, Bool.or_eq_false_iff] at h
    rw [List.map_cons, own2_dg h.1, own2_map h.2]
theorem own_dg {c : V} (h : ownV c = false) : dg c = c := by
  cases c with
  | tup cs => rw [dg, own2_map h]
  | agg cs => exact own2_dg (c := .agg cs) h
  | _ => first | rfl | cases h
theorem upd_self (σ : PS) (s : Nat) : upd σ s (σ s) = σ := by
  funext q
  by_cases e : q = s
  · rw [e, upd_same]
  · rw [upd_ne _ _ e]
def takeL (L : PL) (x : Operand) (c : V) : Option PL := match x with
  | .tmp s => match ownV c with
    | false => some L
    | true => obind (frc (dg c)) fun c' => some ((s, c') :: L)
  | _ => some L
theorem takeL_ok {L L' : PL} {x : Operand} {c : V} (h : opO L x = some c) (h2 : takeL L x c = some L') : ofL L' = takeS (ofL L) x := by
  cases x with
  | tmp s =>
    have e := lk_ok h
    simp only [takeL, takeS] at h2 ⊢
    split at h2
    · rename_i ho
      cases h2
      rw [e, own_dg ho, ← e, upd_self]
    · obtain ⟨c', h3, h2⟩ := ob_some h2
      cases h2
      rw [frc_eq h3, ofL_cons, e]
  | _ => cases h2; rfl
def mvO (L : PL) : Operand → Option V
  | .tmp s => obind (lk L s) fun c => match c with
    | .uni _ _ _ => some (.same s)
    | .same b => some (.same b)
    | .box _ => some (.cref s 0)
    | .cref b o => some (.cref b o)
    | c => ifB c.isVal (frc (dg c))
  | .const v => obind (frc (cV v)) fun c => ifB c.isVal (frc (dg c))
  | _ => none
def isBoolT : Option TyD → Bool
  | some (.sc (.bool false)) => true
  | _ => false
def kEq : IntKind → IntKind → Bool
  | .i64, .i64 => true
  | .u8, .u8 => true
  | k, k' => decide (k = k')
theorem kEq_ok {k k' : IntKind} (h : kEq k k' = true) : k = k' := by
  cases k <;> cases k' <;> first | rfl | cases h
def binB (d : Option TyD) : BinOp → V → V → Bool
  | .shl, .int _ _, .int _ b => decide (0 ≤ b)
  | .shr, .int _ _, .int _ b => decide (0 ≤ b)
  | .quo, .int k _, .int k' b => kEq k k' && !decide (b = 0)
  | .rem, .int k _, .int k' b => kEq k k' && !decide (b = 0)
  | _, .int k _, .int k' _ => kEq k k'
  | .eql, .str _, .str _ => true
  | .neq, .str _, .str _ => true
  | .lss, .str _, .str _ => true
  | .leq, .str _, .str _ => true
  | .gtr, .str _, .str _ => true
  | .geq, .str _, .str _ => true
  | .eql, .bool _, .bool _ => isBoolT d
  | .neq, .bool _, .bool _ => isBoolT d
  | _, _, _ => false
def unB : UnOp → V → Bool
  | .not, .bool _ => true
  | .neg, .int _ _ => true
  | _, _ => false
def cvB (tb : Tb) (s d : TypeId) (x : V) : Option V := match tb s, tb d, x with
  | some _, some (.sc (.int k _)), .int _ n => some (.int k (k.wrap n))
  | _, _, _ => none
def bxL (L : PL) (s : Nat) : Option (List V) := obind (lk L s) bxOf
def loadO (tb : Tb) (L : PL) (t : TypeId) (x : Operand) : Option V := obind (tb t) fun d => obind (adO L x) fun c => match c with
  | .cref s off => obind (bxL L s) fun cs => ifB (Nat.ble (off + d.size) cs.length) (frc (getCells d cs off))
  | .adr cs off => ifB (Nat.ble (off + d.size) cs.length) (frc (getCells d cs off))
  | _ => none
def ptF (k : Nat) : Value → Option V
  | .pointer (some ⟨g, o, none⟩) => some (.tok (.pointer (some ⟨g, o + k, none⟩)))
  | _ => none
theorem ptF_ok {k : Nat} {u : Value} {v : V} (h : ptF k u = some v) : isPt u = true ∧ tokF k u = v := by
  unfold ptF at h
  split at h
  · cases h; exact ⟨rfl, rfl⟩
  · cases h
def faO (tb : Tb) (L : PL) (t : TypeId) (x : Operand) (f : Nat) : Option V := obind (tb t) fun d => match d with
  | .st _ _ fs => obind (fs[f]?) fun p => obind (adO L x) fun c => match c with
    | .cref s o => obind (bxL L s) fun _ => some (.cref s (o + p.1))
    | .adr cs o => some (.adr cs (o + p.1))
    | .tok u => ptF p.1 u
    | _ => none
  | _ => none
def nilO (L : PL) (x : Operand) : Option V := obind (adO L x) fun c => match c with
  | .cref s o => obind (bxL L s) fun _ => some (.cref s o)
  | .adr cs o => some (.adr cs o)
  | _ => none
def isStrT : Option TyD → Bool
  | some (.sc (.str [])) => true
  | _ => false
def isSlT : Option TyD → Bool
  | some (.sl ..) => true
  | _ => false
def lenO (L : PL) (d : Option TyD) : V → Option V
  | .str s => ifB (isStrT d) (some (.int .i64 s.length))
  | .same b => obind (lk L b) fun c => match c with
    | .uni _ n _ => ifB (isSlT d) (some (.int .i64 n))
    | _ => none
  | c => obind (slOf c) fun p => ifB (isSlT d) (some (.int .i64 p.1))
def mxO (mx : Bool) (x y : V) : Option V := match x, y with
  | .int k a, .int _ b => some (.int k (if mx then (if a < b then b else a) else (if b < a then b else a)))
  | _, _ => none
def callO (tb : Tb) (L : PL) : Callee → List Operand → List TypeId → Option V
  | .builtin .len, [x], [t] => obind (opO L x) (lenO L (tb t))
  | .builtin .max, [x, y], _ => obind (opO L x) fun a => obind (opO L y) fun b => match a, b with
    | .int k a, .int _ b => some (.int k (if a < b then b else a))
    | _, _ => none
  | .builtin .min, [x, y], _ => obind (opO L x) fun a => obind (opO L y) fun b => match a, b with
    | .int k a, .int _ b => some (.int k (if b < a then b else a))
    | _, _ => none
  | _, _, _ => none
def pureO (tb : Tb) (L : PL) : Op → Option V
  | .move x => mvO L x
  | .pick c a b => obind (opO L c) fun q => match q with
    | .bool e => match e with
      | true => obind (opO L a) fun c => ifB c.isVal (frc (dg c))
      | false => obind (opO L b) fun c => ifB c.isVal (frc (dg c))
    | _ => none
  | .binOp op t x y _ => obind (opO L x) fun a => obind (opO L y) fun b => ifB (binB (tb t) op a b) (frc (binV op a b))
  | .unOp op _ x => obind (opO L x) fun a => ifB (unB op a) (frc (unV op a))
  | .convert s d x => obind (opO L x) fun a => cvB tb s d a
  | .load t x => loadO tb L t x
  | .fieldAddr t x f => faO tb L t x f
  | .call c => callO tb L c.callee c.args.toList c.argTypes.toList
  | _ => none
theorem isBoolT_ok {d : Option TyD} (h : isBoolT d = true) : d = some (.sc (.bool false)) := by
  unfold isBoolT at h
  split at h
  · rfl
  · cases h
theorem isStrT_ok {d : Option TyD} (h : isStrT d = true) : d = some (.sc (.str [])) := by
  unfold isStrT at h
  split at h
  · rfl
  · cases h
theorem isSlT_ok {d : Option TyD} (h : isSlT d = true) : ∃ e es eb ez, d = some (.sl e es eb ez) := by
  unfold isSlT at h
  split at h
  · exact ⟨_, _, _, _, rfl⟩
  · cases h
theorem binB_ok {d : Option TyD} {op : BinOp} {a b : V} (h : binB d op a b = true) : binC d op a b := by
  cases a <;> cases b <;> cases op <;> first | (cases h; done) | exact trivial | exact isBoolT_ok h | exact kEq_ok h | (simp only [binB, decide_eq_true_eq] at h; exact h) | (simp only [binB, Bool.and_eq_true, Bool.not_eq_true', decide_eq_false_iff_not] at h; exact ⟨kEq_ok h.1, h.2⟩)
theorem unB_ok {op : UnOp} {a : V} (h : unB op a = true) : unC op a := by
  cases a <;> cases op <;> first | (cases h; done) | exact trivial
theorem val_mv {σ : PS} {s : Nat} {c : V} (e : σ s = c) (h : c.isVal = true) : mvC σ (.tmp s) ∧ mvV σ (.tmp s) = dg c := by
  subst e
  simp only [mvC, mvV]
  cases hc : σ s <;> rw [hc] at h <;> first | (cases h; done) | exact ⟨h, rfl⟩
theorem mvO_ok {L : PL} {x : Operand} {v : V} (h : mvO L x = some v) : mvC (ofL L) x ∧ mvV (ofL L) x = v := by
  cases x with
  | tmp s =>
    obtain ⟨c, h1, h⟩ := ob_some (show obind (lk L s) _ = _ from h)
    have e := lk_ok h1
    cases c with
    | uni a b c => cases h; simp only [mvC, mvV, e]; exact ⟨trivial, trivial⟩
    | same b => cases h; simp only [mvC, mvV, e]; exact ⟨trivial, trivial⟩
    | box b => cases h; simp only [mvC, mvV, e]; exact ⟨trivial, trivial⟩
    | cref b o => cases h; simp only [mvC, mvV, e]; exact ⟨trivial, trivial⟩
    | _ =>
      obtain ⟨h2, h3⟩ := if_some h
      obtain ⟨h4, h5⟩ := val_mv e h2
      exact ⟨h4, h5.trans (frc_eq h3).symm⟩
  | const c =>
    obtain ⟨c, h1, h⟩ := ob_some (show obind (frc (cV c)) _ = _ from h)
    obtain ⟨h2, h3⟩ := if_some h
    have e := frc_eq h1
    subst e
    exact ⟨h2, (frc_eq h3).symm⟩
  | _ => cases h
theorem loadO_ok {tb : Tb} {L : PL} {t : TypeId} {x : Operand} {v : V} (h : loadO tb L t x = some v) : loadC' (tb t) (ofL L) (adV (ofL L) x) ∧ loadV' (tb t) (ofL L) (adV (ofL L) x) = v := by
  obtain ⟨d, h1, h⟩ := ob_some h
  obtain ⟨c, h2, h⟩ := ob_some h
  rw [h1, adO_ok h2]
  simp only [loadC', loadV']
  cases c with
  | cref s off =>
    obtain ⟨cs, h3, h⟩ := ob_some h
    obtain ⟨h4, h⟩ := if_some h
    obtain ⟨c, h5, h6⟩ := ob_some h3
    have := lk_ok h5
    simp only [loadC, loadV, this, h6]
    exact ⟨nb h4, (frc_eq h).symm⟩
  | adr cs off =>
    obtain ⟨h4, h⟩ := if_some h
    exact ⟨nb h4, (frc_eq h).symm⟩
  | _ => cases h
theorem faO_ok {tb : Tb} {L : PL} {t : TypeId} {x : Operand} {f : Nat} {v : V} (h : faO tb L t x f = some v) : faC' (tb t) f (ofL L) (adV (ofL L) x) ∧ faV' (tb t) f (adV (ofL L) x) = v := by
  obtain ⟨d, h1, h⟩ := ob_some h
  cases d with
  | st n z fs =>
    obtain ⟨p, h2, h⟩ := ob_some h
    obtain ⟨c, h3, h⟩ := ob_some h
    rw [h1, adO_ok h3]
    simp only [faC', faV', h2]
    cases c with
    | cref s o =>
      obtain ⟨cs, h4, h⟩ := ob_some h
      obtain ⟨c, h5, h6⟩ := ob_some h4
      cases h
      have := lk_ok h5
      exact ⟨⟨cs, by rw [this, h6]⟩, rfl⟩
    | adr cs o => cases h; exact ⟨trivial, rfl⟩
    | tok u => exact ptF_ok h
    | _ => cases h
  | _ => cases h
theorem nilO_ok {L : PL} {x : Operand} {v : V} (h : nilO L x = some v) : faC (ofL L) (adV (ofL L) x) ∧ adV (ofL L) x = v := by
  obtain ⟨c, h3, h⟩ := ob_some h
  rw [adO_ok h3]
  cases c with
  | cref s o =>
    obtain ⟨cs, h4, h⟩ := ob_some h
    obtain ⟨c, h5, h6⟩ := ob_some h4
    cases h
    have := lk_ok h5
    exact ⟨⟨cs, by rw [this, h6]⟩, rfl⟩
  | adr cs o => cases h; exact ⟨trivial, rfl⟩
  | _ => cases h
theorem len_sl {L : PL} {d : Option TyD} {c v : V} {n : Nat} {cs : List V} (hs : slOf c = some (n, cs)) (h : ifB (isSlT d) (some (V.int .i64 n)) = some v) : lenSC d (ofL L) c ∧ lenS (ofL L) c = v := by
  obtain ⟨h2, h⟩ := if_some h
  obtain ⟨a, b, z, q, rfl⟩ := isSlT_ok h2
  cases h
  cases c <;> first | (cases hs; done) | (cases hs; exact ⟨trivial, rfl⟩)
theorem lenO_ok {L : PL} {d : Option TyD} {c v : V} (h : lenO L d c = some v) : lenSC d (ofL L) c ∧ lenS (ofL L) c = v := by
  cases c with
  | str s =>
    obtain ⟨h1, h⟩ := if_some (show ifB (isStrT d) _ = _ from h)
    cases h; exact ⟨isStrT_ok h1, rfl⟩
  | same b =>
    obtain ⟨c, h1, h⟩ := ob_some (show obind (lk L b) _ = _ from h)
    have := lk_ok h1
    cases c with
    | uni e n cs =>
      obtain ⟨h2, h⟩ := if_some h
      obtain ⟨a, b, c, z, rfl⟩ := isSlT_ok h2
      cases h
      simp only [lenSC, lenS, this]; exact ⟨trivial, trivial⟩
    | _ => cases h
  | own e n cs => exact len_sl rfl h
  | dat n cs => exact len_sl rfl h
  | arg n cs => exact len_sl rfl h
  | pin u n cs => exact len_sl rfl h
  | _ => cases h
theorem callO_ok {tb : Tb} {L : PL} {c : Callee} {xs : List Operand} {ts : List TypeId} {v : V} (h : callO tb L c xs ts = some v) : pcCall tb (ofL L) c xs ts ∧ pvCall (ofL L) c xs = v := by
  unfold callO at h
  split at h
  · obtain ⟨a, h1, h⟩ := ob_some h
    simp only [pcCall, pvCall, opO_ok h1]
    exact lenO_ok h
  · obtain ⟨a, h1, h⟩ := ob_some h
    obtain ⟨b, h2, h⟩ := ob_some h
    simp only [pcCall, pvCall, opO_ok h1, opO_ok h2]
    split at h
    · cases h; exact ⟨trivial, rfl⟩
    · cases h
  · obtain ⟨a, h1, h⟩ := ob_some h
    obtain ⟨b, h2, h⟩ := ob_some h
    simp only [pcCall, pvCall, opO_ok h1, opO_ok h2]
    split at h
    · cases h; exact ⟨trivial, rfl⟩
    · cases h
  · cases h
theorem pureO_ok {tb : Tb} {L : PL} {op : Op} {v : V} (h : pureO tb L op = some v) : pc tb (ofL L) op ∧ pv tb (ofL L) op = v := by
  cases op with
  | move x => exact mvO_ok h
  | pick c a b =>
    obtain ⟨q, h1, h⟩ := ob_some (show obind (opO L c) _ = _ from h)
    simp only [pc, pv, opO_ok h1]
    cases q with
    | bool e =>
      cases e with
      | true =>
        obtain ⟨c, h2, h⟩ := ob_some h
        obtain ⟨h3, h⟩ := if_some h
        simp only [pickC, pickV, opO_ok h2, if_true]; exact ⟨h3, (frc_eq h).symm⟩
      | false =>
        obtain ⟨c, h2, h⟩ := ob_some h
        obtain ⟨h3, h⟩ := if_some h
        simp only [pickC, pickV, opO_ok h2, Bool.false_eq_true, if_false]; exact ⟨h3, (frc_eq h).symm⟩
    | _ => cases h
  | binOp op t x y t' =>
    obtain ⟨a, h1, h⟩ := ob_some (show obind (opO L x) _ = _ from h)
    obtain ⟨b, h2, h⟩ := ob_some h
    obtain ⟨h3, h⟩ := if_some h
    simp only [pc, pv, opO_ok h1, opO_ok h2]
    exact ⟨binB_ok h3, (frc_eq h).symm⟩
  | unOp op t x =>
    obtain ⟨a, h1, h⟩ := ob_some (show obind (opO L x) _ = _ from h)
    obtain ⟨h3, h⟩ := if_some h
    simp only [pc, pv, opO_ok h1]
    exact ⟨unB_ok h3, (frc_eq h).symm⟩
  | convert s d x =>
    obtain ⟨a, h1, h⟩ := ob_some (show obind (opO L x) _ = _ from h)
    simp only [pc, pv, opO_ok h1]
    unfold cvB at h
    split at h
    · rename_i h2 h3
      cases h
      simp only [convC, convV, h2, h3]; exact ⟨trivial, trivial⟩
    · cases h
  | load t x => exact loadO_ok h
  | fieldAddr t x f => exact faO_ok h
  | call c => exact callO_ok h
  | _ => cases h
def grdO (L : PL) (g : Option (Option Nat × Bool)) (d : Nat) (v : Option PL) : Option PL := match g with
  | none => v
  | some (some q, b) => obind (lk L q) fun c => match c with
    | .bool e => match e, b with
      | true, true => v
      | false, false => v
      | _, _ => some ((d, .tup []) :: L)
    | .tup _ => some ((d, .tup []) :: L)
    | _ => none
  | some (none, _) => none
def asgO (tb : Tb) (t : TypeId) (x : Operand) (d : Nat) (L : PL) : Option PL := match x with
  | .const (.slice none 0 0) => obind (tb t) fun dd => match dd with
    | .sl e _ _ _ => some ((d, .own e 0 []) :: L)
    | _ => none
  | .const (.pointer none) => some ((d, .undef) :: L)
  | .tmp p => obind (lk L p) fun c => match c with
    | .box _ => some ((d, .cref p 0) :: L)
    | .cref b o => some ((d, .cref b o) :: L)
    | c => ifB c.isVal (obind (takeL L (.tmp p) c) fun L' => some ((d, c) :: L'))
  | .const v => obind (frc (cV v)) fun c => ifB c.isVal (some ((d, c) :: L))
  | _ => none
def loadT (tb : Tb) (t : TypeId) (x : Operand) (d : Nat) (L : PL) : Option PL := obind (tb t) fun dd => obind (adO L x) fun a => match a with
  | .cref s off => obind (lk L s) fun c => match c with
    | .box cs => ifB (Nat.ble (off + dd.size) cs.length) (obind (frc (.box (leftCells dd.size cs off))) fun b => obind (frc (ownCells dd cs off)) fun v => some ((d, v) :: (s, b) :: L))
    | _ => none
  | .adr cs off => ifB (Nat.ble (off + dd.size) cs.length) (obind (frc (getCells dd cs off)) fun v => some ((d, v) :: L))
  | _ => none
def extO (s i d : Nat) (L : PL) : Option PL := obind (lk L s) fun t => match t with
  | .tup cs => obind (cs[i]?) fun c => ifB (cs.all V.isArg) (obind (frc (.tup (cs.set i (dg2 c)))) fun t' => some ((d, c) :: (s, t') :: L))
  | _ => none
def stoO (tb : Tb) (t : TypeId) (x y : Operand) (L : PL) : Option PL := obind (tb t) fun dd => obind (adO L x) fun a => match a with
  | .cref s off => obind (lk L s) fun b => match b with
    | .box cs => obind (opO L y) fun c => ifB (c.isArg && (Nat.beq (cellsV c).length dd.size && Nat.ble (off + dd.size) cs.length)) (obind (takeL L y c) fun L' => obind (frc (.box (repl cs off (cellsV c)))) fun b' => some ((s, b') :: L'))
    | _ => none
  | _ => none
def nbL (L : PL) (d : Nat) : Bool := match lk L d with
  | some c => notBox c
  | none => true
theorem nbL_ok {L : PL} {d : Nat} (h : nbL L d = true) : notBox (ofL L d) = true := by
  unfold nbL at h
  rw [lk_get]
  cases hl : lk L d with
  | none => rfl
  | some c => rw [hl] at h; exact h
def alO (tb : Tb) (t : TypeId) (d : Nat) (L : PL) : Option PL := obind (tb t) fun dd => ifB (nbL L d) (obind (frc (.box (zeroL dd))) fun b => some ((d, b) :: L))
def boxO (x : Operand) (d : Nat) (L : PL) : Option PL := obind (opO L x) fun c => ifB c.isArg (obind (takeL L x c) fun L' => ifB (nbL L' d) (obind (frc (.box (cellsV c))) fun b => some ((d, b) :: L')))
def fillO (place : Nat → Option (Nat × Nat)) : List (Nat × Operand) → PL → List V → Option (PL × List V)
  | [], L, cs => some (L, cs)
  | (i, x) :: r, L, cs => obind (place i) fun p => obind (opO L x) fun c => ifB (c.isArg && (Nat.beq (cellsV c).length p.2 && Nat.ble (p.1 + p.2) cs.length)) (obind (takeL L x c) fun L' => fillO place r L' (repl cs p.1 (cellsV c)))
theorem fillO_ok {place : Nat → Option (Nat × Nat)} : ∀ {ps : List (Nat × Operand)} {L L' : PL} {cs cs' : List V}, fillO place ps L cs = some (L', cs') → fillP place ps (ofL L) cs = some (ofL L', cs')
  | [], _, _, _, _, h => by cases h; rfl
  | (i, x) :: r, L, L', cs, cs', h => by
    rw [fillO] at h
    obtain ⟨p, h1, h⟩ := ob_some h
    obtain ⟨c, h2, h⟩ := ob_some h
    obtain ⟨h3, h⟩ := if_some h
    obtain ⟨L1, h4, h⟩ := ob_some h
    simp only [Bool.and_eq_true] at h3
    rw [fillP, h1]
    simp only
    rw [opO_ok h2, if_pos ⟨h3.1, Nat.eq_of_beq_eq_true h3.2.1, nb h3.2.2⟩, ← takeL_ok h2 h4]
    exact fillO_ok h
def bldO (tb : Tb) (t : TypeId) (ps : List (Nat × Operand)) (d : Nat) (L : PL) : Option PL := obind (tb t) fun dd => match dd with
  | .st _ z fs => obind (fillO (fun i => fs[i]?) ps L z) fun q => obind (frc (.agg q.2)) fun c => some ((d, c) :: q.1)
  | _ => none
def stepO (tb : Tb) (cns : List Nat) (o : LO) (L : PL) : Option PL := match o with
  | ⟨some d, op, t, g⟩ => match op with
    | .assign x => match g, cns.contains d with
      | none, false => asgO tb t x d L
      | _, _ => none
    | .move x => match cns.contains d with
      | true => (match g with
        | none => asgO tb t x d L
        | _ => none)
      | false => grdO L g d (obind (mvO L x) fun v => some ((d, v) :: L))
    | .load t x => match cns.contains d with
      | true => (match g with
        | none => loadT tb t x d L
        | _ => none)
      | false => grdO L g d (obind (loadO tb L t x) fun v => some ((d, v) :: L))
    | .extract (.tmp s) i => match g with
      | none => extO s i d L
      | _ => none
    | .alloc t => match g with
      | none => alO tb t d L
      | _ => none
    | .box _ x => match g with
      | none => boxO x d L
      | _ => none
    | .build t ps => grdO L g d (bldO tb t ps.toList d L)
    | .pick c a b => grdO L g d (obind (pureO tb L (.pick c a b)) fun v => some ((d, v) :: L))
    | .binOp p t x y t' => grdO L g d (obind (pureO tb L (.binOp p t x y t')) fun v => some ((d, v) :: L))
    | .unOp p t x => grdO L g d (obind (pureO tb L (.unOp p t x)) fun v => some ((d, v) :: L))
    | .convert s t x => grdO L g d (obind (pureO tb L (.convert s t x)) fun v => some ((d, v) :: L))
    | .fieldAddr t x f => grdO L g d (obind (faO tb L t x f) fun v => some ((d, v) :: L))
    | .nilCheck x => grdO L g d (obind (nilO L x) fun v => some ((d, v) :: L))
    | .call c => match c.callee with
      | .value (.func _) => (match cns.contains d with
        | true => none
        | false => grdO L g d none)
      | .value (.tmp _) => none
      | .value (.const _) => none
      | .value (.global _) => none
      | _ => grdO L g d (obind (callO tb L c.callee c.args.toList c.argTypes.toList) fun v => some ((d, v) :: L))
    | .index .. => grdO L g d none
    | .indexAddr .. => grdO L g d none
    | .slice .. => grdO L g d none
    | .buildSlice .. => grdO L g d none
    | .field .. => grdO L g d none
    | _ => none
  | ⟨none, .store t x y, _, none⟩ => stoO tb t x y L
  | _ => none
section
variable {P : Program} {tb : Tb} {cns : List Nat} {L L' : PL} {K : PS → Prop} {d : Nat}
theorem grd_pure {op : Op} {t : TypeId} {g : Option (Option Nat × Bool)} {v : Option V} (hv : ∀ r, v = some r → pc tb (ofL L) op ∧ pv tb (ofL L) op = r) (h : grdO L g d (obind v fun v => some ((d, v) :: L)) = some L') (k : K (ofL L')) : pureS tb ⟨some d, op, t, g⟩ (ofL L) K := by
  have run : ∀ {L' : PL}, obind v (fun v => some ((d, v) :: L)) = some L' → K (ofL L') → pc tb (ofL L) op ∧ K (upd (ofL L) d (pv tb (ofL L) op)) := by
    intro L' h k
    obtain ⟨r, h1, h⟩ := ob_some h
    cases h
    obtain ⟨h2, h3⟩ := hv r h1
    exact ⟨h2, by rw [h3]; exact k⟩
  unfold grdO at h
  split at h
  · exact run h k
  · rename_i q b
    obtain ⟨c, h1, h⟩ := ob_some h
    simp only [pureS, lk_ok h1]
    cases c with
    | bool e =>
      cases e <;> cases b <;> simp only at h <;> first
        | exact ⟨rfl, fun _ => run h k, fun e => by cases e⟩
        | (cases h; exact ⟨rfl, (fun e => by cases e), fun _ => k⟩)
    | tup cs => cases h; exact ⟨rfl, (fun e => by cases e), fun _ => k⟩
    | _ => cases h
  · cases h
theorem grd_gen {o : LO} {g : Option (Option Nat × Bool)} {v : Option PL} {X : Prop} (ho : o.g = g) (hv : ∀ L', v = some L' → K (ofL L') → X) (h : grdO L g d v = some L') (k : K (ofL L')) : grdS o d (ofL L) K X := by
  subst ho
  unfold grdO at h
  unfold grdS
  split at h
  · rename_i e; rw [e]; exact hv _ h k
  · rename_i q b e
    rw [e]
    obtain ⟨c, h1, h⟩ := ob_some h
    simp only [lk_ok h1]
    cases c with
    | bool e =>
      cases e <;> cases b <;> simp only at h <;> first
        | exact ⟨rfl, fun _ => hv _ h k, fun e => by cases e⟩
        | (cases h; exact ⟨rfl, (fun e => by cases e), fun _ => k⟩)
    | tup cs => cases h; exact ⟨rfl, (fun e => by cases e), fun _ => k⟩
    | _ => cases h
  · cases h
theorem asgO_ok {x : Operand} {o : LO} (h : asgO tb o.ty x d L = some L') (k : K (ofL L')) : asgS tb o x d (ofL L) K := by
  unfold asgO at h
  split at h
  · obtain ⟨dd, h1, h⟩ := ob_some h
    cases dd with
    | sl e es eb ez => cases h; simp only [asgS, h1]; exact k
    | _ => cases h
  · cases h; simp only [asgS]; exact k
  · rename_i p
    obtain ⟨c, h1, h⟩ := ob_some h
    have gen : ifB c.isVal (obind (takeL L (.tmp p) c) fun L' => some ((d, c) :: L')) = some L' → asgS tb o (.tmp p) d (ofL L) K := by
      intro h
      obtain ⟨h2, h⟩ := if_some h
      obtain ⟨L1, h3, h⟩ := ob_some h
      cases h
      have e := takeL_ok (x := .tmp p) h1 h3
      rw [ofL_cons, e] at k
      exact asg_val (lk_ok h1) h2 (by rw [← lk_ok h1]; simp only [takeS] at k; rw [lk_ok h1] at k ⊢; exact k)
    cases c with
    | box cs => cases h; simp only [asgS, lk_ok h1]; exact k
    | cref b o => cases h; simp only [asgS, lk_ok h1]; exact k
    | _ => exact gen h
  · rename_i v hn hn2
    obtain ⟨c, h1, h⟩ := ob_some h
    obtain ⟨h2, h⟩ := if_some h
    cases h
    have e := frc_eq h1
    subst e
    unfold asgS
    split
    · rename_i he; injection he with he; exact absurd (by rw [he]) hn
    · rename_i he; injection he with he; exact absurd (by rw [he]) hn2
    · rename_i he; cases he
    · exact ⟨h2, k⟩
  · cases h
theorem callH {t : TypeId} {cal : Callee} {args : Array Operand} {ts : Array TypeId} {g : Option (Option Nat × Bool)} {L L' : PL} (h : grdO L g d (obind (callO tb L cal args.toList ts.toList) fun v => some ((d, v) :: L)) = some L') (k : K (ofL L')) : pureS tb ⟨some d, .call ⟨cal, args, ts⟩, t, g⟩ (ofL L) K := grd_pure (op := .call ⟨cal, args, ts⟩) (fun r hr => callO_ok hr) h k
theorem stepO_ok {o : LO} (h : stepO tb cns o L = some L') (k : K (ofL L')) : evO P tb cns o (ofL L) K := by
  obtain ⟨dst, op, t, g⟩ := o
  cases dst with
  | none =>
    unfold stepO at h
    split at h
    · rename_i he; cases he
    · rename_i t' x y ty he
      injection he with e1 e2 e3 e4
      subst e2 e4
      obtain ⟨dd, h1, h⟩ := ob_some h
      obtain ⟨a, h2, h⟩ := ob_some h
      cases a with
      | cref s off =>
        obtain ⟨b, h3, h⟩ := ob_some h
        cases b with
        | box cs =>
          obtain ⟨c, h4, h⟩ := ob_some h
          obtain ⟨h5, h⟩ := if_some h
          obtain ⟨L1, h6, h⟩ := ob_some h
          obtain ⟨b', h7, h⟩ := ob_some h
          cases h
          simp only [Bool.and_eq_true] at h5
          have e := frc_eq h7
          subst e
          simp only [evO, stoS, h1, adO_ok h2, lk_ok h3, bxOf, setBx, opO_ok h4]
          refine ⟨trivial, h5.1, Nat.eq_of_beq_eq_true h5.2.1, nb h5.2.2, ?_⟩
          rw [← takeL_ok h4 h6]; exact k
        | _ => cases h
      | _ => cases h
    · cases h
  | some d =>
    cases op with
    | assign x =>
      simp only [stepO] at h
      split at h
      · rename_i hc
        simp only [evO, hc, Bool.false_eq_true, if_false]
        exact ⟨trivial, asgO_ok (o := ⟨some d, .assign x, t, none⟩) h k⟩
      · cases h
    | move x =>
      simp only [stepO] at h
      split at h
      · rename_i hc
        cases g with
        | none =>
          simp only [evO, hc, if_true]
          exact ⟨trivial, asgO_ok (o := ⟨some d, .move x, t, none⟩) h k⟩
        | some g => cases h
      · rename_i hc
        simp only [evO, hc, Bool.false_eq_true, if_false]
        exact grd_pure (fun r hr => mvO_ok hr) h k
    | load s x =>
      simp only [stepO] at h
      split at h
      · rename_i hc
        cases g with
        | none =>
          simp only [evO, hc, if_true]
          refine ⟨trivial, ?_⟩
          obtain ⟨dd, h1, h⟩ := ob_some h
          obtain ⟨a, h2, h⟩ := ob_some h
          simp only [loadS, h1, adO_ok h2]
          cases a with
          | cref b off =>
            obtain ⟨c, h3, h⟩ := ob_some h
            cases c with
            | box cs =>
              obtain ⟨h4, h⟩ := if_some h
              obtain ⟨b', h5, h⟩ := ob_some h
              obtain ⟨v, h6, h⟩ := ob_some h
              cases h
              rw [frc_eq h5, frc_eq h6] at k
              simp only [lk_ok h3, bxOf, setBx]
              exact ⟨nb h4, k⟩
            | _ => cases h
          | adr cs off =>
            obtain ⟨h4, h⟩ := if_some h
            obtain ⟨v, h6, h⟩ := ob_some h
            cases h
            rw [frc_eq h6] at k
            exact ⟨nb h4, k⟩
          | _ => cases h
        | some g => cases h
      · rename_i hc
        simp only [evO, hc, Bool.false_eq_true, if_false]
        exact grd_pure (fun r hr => loadO_ok hr) h k
    | extract x i =>
      cases x with
      | tmp s =>
        cases g with
        | none =>
          simp only [stepO] at h
          obtain ⟨a, h1, h⟩ := ob_some h
          cases a with
          | tup cs =>
            obtain ⟨c, h2, h⟩ := ob_some h
            obtain ⟨h3, h⟩ := if_some h
            obtain ⟨v, h4, h⟩ := ob_some h
            cases h
            rw [frc_eq h4] at k
            simp only [evO, extS, lk_ok h1, h2]
            exact ⟨trivial, h3, k⟩
          | _ => cases h
        | some g => cases h
      | _ => cases h
    | alloc s =>
      cases g with
      | none =>
        obtain ⟨dd, h1, h⟩ := ob_some (show obind (tb s) _ = _ from h)
        obtain ⟨h2, h⟩ := if_some h
        obtain ⟨v, h4, h⟩ := ob_some h
        cases h
        rw [frc_eq h4] at k
        exact ev_al (nbL_ok h2) h1 k
      | some g => cases h
    | box ty x =>
      cases g with
      | none =>
        obtain ⟨c, h1, h⟩ := ob_some (show obind (opO L x) _ = _ from h)
        obtain ⟨h2, h⟩ := if_some h
        obtain ⟨L1, h3, h⟩ := ob_some h
        obtain ⟨h4, h⟩ := if_some h
        obtain ⟨v, h5, h⟩ := ob_some h
        cases h
        rw [frc_eq h5] at k
        have e := takeL_ok h1 h3
        have h4 := nbL_ok h4
        rw [e] at h4
        simp only [evO, boxS, opO_ok h1]
        exact ⟨trivial, h2, h4, by rw [← e]; exact k⟩
      | some g => cases h
    | build s ps =>
      simp only [stepO] at h
      simp only [evO]
      refine grd_gen rfl (fun L1 h k => ?_) h k
      obtain ⟨dd, h1, h⟩ := ob_some h
      cases dd with
      | st n z fs =>
        obtain ⟨q, h2, h⟩ := ob_some h
        obtain ⟨c, h3, h⟩ := ob_some h
        cases h
        rw [frc_eq h3] at k
        simp only [buildS, h1, fillO_ok (L' := q.1) (cs' := q.2) h2]
        exact k
      | _ => cases h
    | pick c a b => simp only [stepO] at h; exact grd_pure (op := .pick c a b) (fun r hr => pureO_ok hr) h k
    | binOp p t x y t' => simp only [stepO] at h; exact grd_pure (op := .binOp p t x y t') (fun r hr => pureO_ok hr) h k
    | unOp p t x => simp only [stepO] at h; exact grd_pure (op := .unOp p t x) (fun r hr => pureO_ok hr) h k
    | convert s t x => simp only [stepO] at h; exact grd_pure (op := .convert s t x) (fun r hr => pureO_ok hr) h k
    | fieldAddr t x f => simp only [stepO] at h; exact grd_pure (op := .fieldAddr t x f) (fun r hr => faO_ok hr) h k
    | nilCheck x => simp only [stepO] at h; exact grd_pure (op := .nilCheck x) (fun r hr => nilO_ok hr) h k
    | index s x y => simp only [stepO] at h; exact grd_pure (op := .index s x y) (v := none) (fun r hr => by cases hr) h k
    | indexAddr s x y => simp only [stepO] at h; exact grd_pure (op := .indexAddr s x y) (v := none) (fun r hr => by cases hr) h k
    | slice s x lo hi m => simp only [stepO] at h; exact grd_pure (op := .slice s x lo hi m) (v := none) (fun r hr => by cases hr) h k
    | buildSlice s n ps => simp only [stepO] at h; simp only [evO]; exact grd_gen rfl (fun L1 h k => by cases h) h k
    | field s x f => simp only [stepO] at h; simp only [evO]; exact grd_gen rfl (fun L1 h k => by cases h) h k
    | call c =>
      obtain ⟨cal, args, ts⟩ := c
      simp only [stepO] at h
      cases cal with
      | value x =>
        cases x with
        | func f =>
          simp only at h
          cases hcd : cns.contains d with
          | true => rw [hcd] at h; cases h
          | false =>
            rw [hcd] at h
            simp only at h
            show callF P cns ⟨some d, .call ⟨.value (.func f), args, ts⟩, t, g⟩ f args.toList (ofL L) K
            unfold callF
            rw [if_neg (by simpa using hcd)]
            left
            unfold callS
            unfold grdO at h
            cases g with
            | none => cases h
            | some g =>
              obtain ⟨q, b⟩ := g
              cases q with
              | none => cases h
              | some q =>
                obtain ⟨c, h1, h⟩ := ob_some (show obind (lk L q) _ = _ from h)
                simp only [lk_ok h1]
                cases c with
                | bool e =>
                  cases e <;> cases b <;> simp only at h <;> first
                    | (cases h; done)
                    | (cases h; exact ⟨rfl, (fun e => by cases e), fun _ => k⟩)
                | tup cs => cases h; exact ⟨rfl, (fun e => by cases e), fun _ => k⟩
                | _ => cases h
        | _ => cases h
      | builtin b =>
        have hp : pureS tb ⟨some d, .call ⟨.builtin b, args, ts⟩, t, g⟩ (ofL L) K := grd_pure (op := .call ⟨.builtin b, args, ts⟩) (fun r hr => callO_ok hr) h k
        cases b with
        | append =>
          simp only [evO, callS']
          split
          · rename_i heq; cases heq
          · rename_i _ heq _ _
            injection heq with heq
            subst heq
            refine grd_gen rfl (fun L1 h k => ?_) h k
            obtain ⟨r, hr, _⟩ := ob_some h
            cases hr
          · exact hp
        | _ => exact hp
      | _ => exact callH h k
    | _ => cases h
end
def stepN (tb : Tb) (cns : List Nat) : Nat → List LO → PL → Option (List LO × PL)
  | 0, os, L => some (os, L)
  | _ + 1, [], _ => none
  | n + 1, o :: os, L => obind (stepO tb cns o L) fun L' => stepN tb cns n os L'
def basL (L : PL) (R : List Nat) (p : Nat) : Bool := match lk L p with
  | some c => bas R c
  | none => true
theorem basL_ok {L : PL} {R : List Nat} {p : Nat} (h : basL L R p = true) : bas R (ofL L p) = true := by
  unfold basL at h
  rw [lk_get]
  cases hl : lk L p with
  | none => rfl
  | some c => rw [hl] at h; exact h
def basWL (L : PL) (R W : List Nat) (p : Nat) : Bool := match lk L p with
  | some c => basW R W p c
  | none => true
theorem basWL_ok {L : PL} {R W : List Nat} {p : Nat} (h : basWL L R W p = true) : basW R W p (ofL L p) = true := by
  unfold basWL at h
  rw [lk_get]
  cases hl : lk L p with
  | none => rfl
  | some c => rw [hl] at h; exact h
def noTokL (L : PL) (p : Nat) : Bool := match lk L p with
  | some c => noTok c
  | none => true
theorem noTokL_ok {L : PL} {p : Nat} (h : noTokL L p = true) : noTok (ofL L p) = true := by
  unfold noTokL at h
  rw [lk_get]
  cases hl : lk L p with
  | none => rfl
  | some c => rw [hl] at h; exact h
def boxL (L : PL) (p : Nat) : Bool := match lk L p with
  | some c => boxV c
  | none => false
theorem boxL_ok {L : PL} {p : Nat} (h : boxL L p = true) : boxV (ofL L p) = true := by
  unfold boxL at h
  rw [lk_get]
  cases hl : lk L p with
  | none => rw [hl] at h; cases h
  | some c => rw [hl] at h; exact h
def stepD (tb : Tb) (cns : List Nat) : Nat → List (List Nat × List Nat) → List LO → PL → Option (List (List Nat × List Nat) × List LO × PL)
  | 0, fps, os, L => some (fps, os, L)
  | n + 1, (R, W) :: fps, o :: os, L => ifB ((adP o.op).all (basL L R) && ((adC o.op).all (basWL L R W) && ((adS o.op).all (noTokL L) && ((adU cns o).all (basL L R) && (ptS cns).all (boxL L))))) (obind (stepO tb cns o L) fun L' => stepD tb cns n fps os L')
  | _ + 1, _, _, _ => none
def keepL (L : PL) : List Nat → Option PL
  | [] => some []
  | s :: ss => obind (lk L s) fun c => obind (keepL L ss) fun L' => some ((s, c) :: L')
def keepS (L : PL) (ss : List Nat) : Option PL := obind (keepL L ss) fun L' => ifB (okR L') (some L')
theorem keepL_ok {L : PL} : ∀ {ss : List Nat} {L' : PL}, keepL L ss = some L' → okK (ofL L) L'
  | [], _, h => by cases h; trivial
  | s :: ss, _, h => by
    rw [keepL] at h
    obtain ⟨c, h1, h⟩ := ob_some h
    obtain ⟨L1, h2, h⟩ := ob_some h
    cases h
    exact ⟨(lk_ok h1) ▸ kr, keepL_ok h2⟩
theorem keepS_ok {L L' : PL} {ss : List Nat} (h : keepS L ss = some L') : okK (ofL L) L' ∧ okR L' = true := by
  obtain ⟨L1, h1, h⟩ := ob_some h
  obtain ⟨h2, h⟩ := if_some h
  cases h
  exact ⟨keepL_ok h1, h2⟩
def iniL : Nat → List V → PL
  | _, [] => []
  | i, c :: cs => (i, c) :: iniL (i + 1) cs
theorem ini_at : ∀ (args : List V) (i s : Nat), okK (fun q => (args[q - i]?).getD (.tup [])) (iniL i args)
  | [], _, _ => trivial
  | c :: cs, i, s => by
    refine ⟨by simpa using kr, ?_⟩
    have h := ini_at cs (i + 1) s
    have key : ∀ (L : PL) (f g : PS), (∀ p ∈ L, f p.1 = g p.1) → okK f L → okK g L := by
      intro L f g
      induction L with
      | nil => intro _ _; trivial
      | cons p L ih =>
        obtain ⟨q, c⟩ := p
        intro he hk
        exact ⟨by rw [← he (q, c) (by simp)]; exact hk.1, ih (fun p hp => he p (by simp [hp])) hk.2⟩
    have hlow : ∀ (cs : List V) (j : Nat), ∀ p ∈ iniL j cs, j ≤ p.1 := by
      intro cs
      induction cs with
      | nil => intro j p hp; simp [iniL] at hp
      | cons c cs ih =>
        intro j p hp
        simp only [iniL, List.mem_cons] at hp
        rcases hp with rfl | hp
        · exact Nat.le_refl _
        · have := ih (j + 1) p hp; omega
    refine key _ _ _ (fun p hp => ?_) h
    have := hlow cs (i + 1) p hp
    rw [show p.1 - i = (p.1 - (i + 1)) + 1 by omega, List.getElem?_cons_succ]
section
variable {P : Program} {tb : Tb} {cns : List Nat} {L L' : PL} {K : PS → Prop} {ops os : List LO} {fps fps' : List (List Nat × List Nat)}
theorem stepN_ok : ∀ {n : Nat} {ops : List LO} {L : PL}, stepN tb cns n ops L = some (os, L') → evS P tb cns os (ofL L') K → evS P tb cns ops (ofL L) K
  | 0, _, _, h, k => by cases h; exact k
  | _ + 1, [], _, h, _ => by cases h
  | n + 1, o :: ops, L, h, k => by
    rw [stepN] at h
    obtain ⟨L1, h1, h⟩ := ob_some h
    exact stepO_ok (K := fun σ' => evS P tb cns ops σ' K) h1 (stepN_ok h k)
theorem sp (n : Nat) (h : stepN tb cns n ops L = some (os, L')) (k : evS P tb cns os (ofL L') K) : evS P tb cns ops (ofL L) K := stepN_ok h k
theorem stepD_ok : ∀ {n : Nat} {fps : List (List Nat × List Nat)} {ops : List LO} {L : PL}, stepD tb cns n fps ops L = some (fps', os, L') → evD P tb cns fps' os (ofL L') K → evD P tb cns fps ops (ofL L) K
  | 0, _, _, _, h, k => by cases h; exact k
  | n + 1, [], _, _, h, _ => by cases h
  | n + 1, _ :: _, [], _, h, _ => by cases h
  | n + 1, (R, W) :: fps, o :: ops, L, h, k => by
    rw [stepD] at h
    obtain ⟨h1, h⟩ := if_some h
    obtain ⟨L1, h2, h⟩ := ob_some h
    simp only [Bool.and_eq_true, List.all_eq_true] at h1
    refine evd (by unfold adOk; rw [Bool.and_eq_true, Bool.and_eq_true]; exact ⟨List.all_eq_true.2 fun p hp => basL_ok (h1.1 p hp), List.all_eq_true.2 fun p hp => basWL_ok (h1.2.1 p hp), List.all_eq_true.2 fun p hp => noTokL_ok (h1.2.2.1 p hp)⟩) (by unfold adB bxS; rw [Bool.and_eq_true]; exact ⟨List.all_eq_true.2 fun p hp => basL_ok (h1.2.2.2.1 p hp), List.all_eq_true.2 fun p hp => boxL_ok (h1.2.2.2.2 p hp)⟩) ?_
    exact stepO_ok (K := fun σ' => evD P tb cns fps ops σ' K) h2 (stepD_ok h k)
theorem sd (n : Nat) (h : stepD tb cns n fps ops L = some (fps', os, L')) (k : evD P tb cns fps' os (ofL L') K) : evD P tb cns fps ops (ofL L) K := stepD_ok h k
theorem lit_eq {q : Nat} {c b : Bool} (e : c = b) (h : lk L q = some (.bool c)) : ofL ((q, .bool b) :: L) = ofL L := by
  subst e
  rw [ofL_cons, ← lk_ok h, upd_self]
theorem qg (q : Nat) {c b : Bool} (e : c = b) (h : lk L q = some (.bool c)) (k : evS P tb cns ops (ofL ((q, .bool b) :: L)) K) : evS P tb cns ops (ofL L) K := by rw [lit_eq e h] at k; exact k
theorem qgd (q : Nat) {c b : Bool} (e : c = b) (h : lk L q = some (.bool c)) (k : evD P tb cns fps ops (ofL ((q, .bool b) :: L)) K) : evD P tb cns fps ops (ofL L) K := by rw [lit_eq e h] at k; exact k
end
section
variable {P : Program} {nt : Nat} {bx : List Nat} {l : LC} {Q : Exit → PS → Prop} {tb : Tb} {cns : List Nat} {L L' : PL}
theorem qk (ss : List Nat) (h : keepS L ss = some L') (k : LS P nt bx l (ofL L') Q) : LS P nt bx l (ofL L) Q := ls_keep L' (keepS_ok h).1 (keepS_ok h).2 k
theorem qe (ss : List Nat) (h : keepS L ss = some L') (k : LS P nt bx l (ofL L') Q) : evS P tb cns [] (ofL L) (fun σ' => LS P nt bx l σ' Q) := qk ss h k
theorem qi (args : List V) (hr : okR (iniL 0 args) = true) (k : LS P nt bx l (ofL (iniL 0 args)) Q) : LS P nt bx l (initS args) Q := ls_keep _ (ini_at args 0 0) hr k
end
section
variable {P : Program} {tb : Tb} {cns : List Nat} {L : PL} {K : PS → Prop} {d s t : Nat} {x y z : Operand}
def argO (L : PL) (x : Operand) : Option V := obind (opO L x) fun c => ifB c.isArg (some c)
theorem argO_ok {c : V} (h : argO L x = some c) : opV (ofL L) x = c ∧ c.isArg = true := by
  obtain ⟨c', h1, h⟩ := ob_some h
  obtain ⟨h2, h⟩ := if_some h
  cases h
  exact ⟨opO_ok h1, h2⟩
theorem qa {c a : V} {xs : List Operand} {as : List V} (h1 : argO L x = some c) (h2 : er c = a) (h3 : erA (ofL L) xs as) : erA (ofL L) (x :: xs) (a :: as) := era (by rw [(argO_ok h1).1]; exact (argO_ok h1).2) (by rw [(argO_ok h1).1]; exact h2) h3
def isPl : V → Bool
  | .int .. | .bool .. | .str .. | .fn .. => true
  | _ => false
theorem qs {a : V} {xs : List Operand} {as : List V} (h1 : obind (argO L x) (fun c => ifB (isPl c) (some c)) = some a) (h3 : erA (ofL L) xs as) : erA (ofL L) (x :: xs) (a :: as) := by
  obtain ⟨c, h2, h⟩ := ob_some h1
  obtain ⟨h4, h⟩ := if_some h
  cases h
  exact qa h2 (by cases a <;> first | rfl | cases h4) h3
theorem cnF (hc : cns.contains d = false) : (some d).toList.any cns.contains = false := by simpa using hc
theorem qC {f : FuncId} {args : Array Operand} {ts : Array TypeId} {as : List V} {r : V} (he : erA (ofL L) args.toList as) (hs : SoundAt P f as r) (k : K (ofL ((d, r) :: L))) (hc : cns.contains d = false := by rfl) : evO P tb cns ⟨some d, .call { callee := .value (.func f), args := args, argTypes := ts }, t, none⟩ (ofL L) K := ev_call (cnF hc) he hs k
theorem qCt {f : FuncId} {p : Nat} {args : Array Operand} {ts : Array TypeId} {as : List V} {r : V} (hp : lk L p = some (.fn f)) (he : erA (ofL L) args.toList as) (hs : SoundAt P f as r) (k : K (ofL ((d, r) :: L))) (hc : cns.contains d = false := by rfl) : evO P tb cns ⟨some d, .call { callee := .value (.tmp p), args := args, argTypes := ts }, t, none⟩ (ofL L) K := by
  obtain ⟨h1, h2⟩ := erA_ok he
  subst h2
  show (match opV (ofL L) (.tmp p) with
    | .fn f => callF P cns _ f args.toList (ofL L) K
    | _ => False)
  rw [show opV (ofL L) (.tmp p) = .fn f from lk_ok hp]
  show callF P cns _ f args.toList (ofL L) K
  unfold callF
  rw [if_neg (by simpa using hc)]
  exact .inl ⟨h1, r, .inl hs, k⟩
theorem qC0 {f : FuncId} {args : Array Operand} {ts : Array TypeId} {as : List V} {r : V} (he : erA (ofL L) args.toList as) (hs : SoundAt P f as r) (k : K (ofL L)) : evO P tb cns ⟨none, .call { callee := .value (.func f), args := args, argTypes := ts }, t, none⟩ (ofL L) K := ev_call rfl he hs k
def iaO (tb : Tb) (L : PL) (s : TypeId) (x y : Operand) : Option (Nat × List V × Int × Nat) := obind (opO L x) fun a => obind (slOf a) fun p => obind (opO L y) fun b => match b with
  | .int _ i => obind (tb s) fun dd => match dd with
    | .sl _ es _ _ => some (p.1, p.2, i, es)
    | _ => none
  | _ => none
theorem qI {α : Type} {f : α → List V} {l : List α} {i : Int} {e : α} {n : Nat} (h : iaO tb L s x y = some (l.length, l.flatMap f, i, n)) (hf : ∀ x, (f x).length = n) (hi : geti l i = some e) (k : K (ofL ((d, .adr (f e ++ (l.drop (i.toNat + 1)).flatMap f) 0) :: L))) : evO P tb cns ⟨some d, .indexAddr s x y, t, none⟩ (ofL L) K := by
  obtain ⟨a, h1, h⟩ := ob_some h
  obtain ⟨p, h2, h⟩ := ob_some h
  obtain ⟨b, h3, h⟩ := ob_some h
  obtain ⟨g1, g2, g3⟩ := geti_some hi
  cases b with
  | int kk j =>
    obtain ⟨dd, h4, h⟩ := ob_some h
    cases dd with
    | sl e' es eb ez =>
      simp only [Option.some.injEq, Prod.mk.injEq] at h
      obtain ⟨e1, e2, e3, e4⟩ := h
      subst e3 e4
      refine ev_ia (n := l.length) (cs := l.flatMap f) (by rw [opO_ok h1, h2]; cases p; cases e1; cases e2; rfl) (opO_ok h3) h4 ⟨g1, g2⟩ ?_
      have := (fl_get hf g3 0).resolve_right (by omega)
      rw [Nat.add_zero, List.drop_zero] at this
      rw [this]; exact k
    | _ => cases h
  | _ => cases h
def sixO (tb : Tb) (L : PL) (s : TypeId) (x y : Operand) : Option (List UInt8 × Int) := obind (opO L x) fun a => match a with
  | .str u => obind (opO L y) fun b => match b with
    | .int _ i => ifB (isStrT (tb s)) (some (u, i))
    | _ => none
  | _ => none
theorem qX {u : List UInt8} {i : Int} {b : UInt8} (h : sixO tb L s x y = some (u, i)) (hi : geti u i = some b) (k : K (ofL ((d, .int .u8 b.toNat) :: L))) : evO P tb cns ⟨some d, .index s x y, t, none⟩ (ofL L) K := by
  obtain ⟨a, h1, h⟩ := ob_some h
  cases a with
  | str u' =>
    obtain ⟨b', h3, h⟩ := ob_some h
    cases b' with
    | int kk j =>
      obtain ⟨h4, h⟩ := if_some h
      cases h
      exact ev_six (opO_ok h1) (opO_ok h3) (isStrT_ok h4) hi k
    | _ => cases h
  | _ => cases h
def bdO (dflt : Int) (L : PL) : Option Operand → Option Int
  | none => some dflt
  | some x => obind (opO L x) ixOf
theorem bdO_ok {dflt i : Int} {lo : Option Operand} (h : bdO dflt L lo = some i) : bdOf dflt (lo.map (opV (ofL L))) = some i := by
  cases lo with
  | none => exact h
  | some x =>
    obtain ⟨c, h1, h⟩ := ob_some (show obind (opO L x) _ = _ from h)
    simp only [Option.map_some, bdOf, opO_ok h1]; exact h
def slsO (tb : Tb) (L : PL) (s : TypeId) (x : Operand) (lo hi : Option Operand) : Option (List UInt8 × Int × Int) := obind (opO L x) fun a => match a with
  | .str u => ifB (isStrT (tb s)) (obind (bdO 0 L lo) fun l => obind (bdO u.length L hi) fun h => some (u, l, h))
  | _ => none
theorem qSs {u : List UInt8} {lo hi : Option Operand} {l h : Int} (hh : slsO tb L s x lo hi = some (u, l, h)) (hb : 0 ≤ l ∧ l ≤ h ∧ h ≤ u.length) (k : K (ofL ((d, .str (subl u l h)) :: L))) : evO P tb cns ⟨some d, .slice s x lo hi none, t, none⟩ (ofL L) K := by
  obtain ⟨a, h1, hh⟩ := ob_some hh
  cases a with
  | str u' =>
    obtain ⟨h4, hh⟩ := if_some hh
    obtain ⟨l', h5, hh⟩ := ob_some hh
    obtain ⟨r', h6, hh⟩ := ob_some hh
    cases hh
    exact ev_sls (opO_ok h1) (isStrT_ok h4) (bdO_ok h5) (bdO_ok h6) hb k
  | _ => cases hh
def argK : V → Bool
  | .arg .. => true
  | _ => false
theorem partW_no {a : V} (h : argK a = false) (n : Nat) (cs : List V) : partW a n cs = .dat n cs := by cases a <;> first | rfl | cases h
theorem partW_arg {a : V} (h : argK a = true) (n : Nat) (cs : List V) : partW a n cs = .arg n cs := by cases a <;> first | rfl | cases h
def sleO (tb : Tb) (L : PL) (b : Bool) (s : TypeId) (x : Operand) (lo hi : Option Operand) : Option (Nat × List V × Nat × Int × Int) := obind (opO L x) fun a => ifB (argK a == b) <| obind (slOf a) fun p => obind (tb s) fun dd => match dd with
  | .sl _ es _ _ => obind (bdO 0 L lo) fun l => obind (bdO p.1 L hi) fun h => some (p.1, p.2, es, l, h)
  | _ => none
theorem qSl_ {α : Type} {f : α → List V} {lst : List α} {n : Nat} {lo hi : Option Operand} {l h : Int} {b : Bool} (hh : sleO tb L b s x lo hi = some (lst.length, lst.flatMap f, n, l, h)) (hf : ∀ x, (f x).length = n) (hb : 0 ≤ l ∧ l ≤ h ∧ h ≤ lst.length) (k : ∀ a, argK a = b → K (ofL ((d, partW a (subl lst l h).length ((subl lst l h).flatMap f)) :: L))) : evO P tb cns ⟨some d, .slice s x lo hi none, t, none⟩ (ofL L) K := by
  obtain ⟨a, h1, hh⟩ := ob_some hh
  obtain ⟨hk, hh⟩ := if_some hh
  obtain ⟨p, h2, hh⟩ := ob_some hh
  obtain ⟨dd, h3, hh⟩ := ob_some hh
  cases dd with
  | sl e es eb ez =>
    obtain ⟨l', h5, hh⟩ := ob_some hh
    obtain ⟨r', h6, hh⟩ := ob_some hh
    simp only [Option.some.injEq, Prod.mk.injEq] at hh
    obtain ⟨e1, e2, e3, e4, e5⟩ := hh
    subst e3 e4 e5
    rw [e1] at h6
    exact ev_sle (lst := lst) (f := f) (by rw [opO_ok h1, h2]; cases p; cases e1; cases e2; rfl) h3 hf (bdO_ok h5) (bdO_ok h6) hb (by rw [opO_ok h1]; exact k a (eq_of_beq hk))
  | _ => cases hh
theorem qSl {α : Type} {f : α → List V} {lst : List α} {n : Nat} {lo hi : Option Operand} {l h : Int} (hh : sleO tb L false s x lo hi = some (lst.length, lst.flatMap f, n, l, h)) (hf : ∀ x, (f x).length = n) (hb : 0 ≤ l ∧ l ≤ h ∧ h ≤ lst.length) (k : K (ofL ((d, .dat (subl lst l h).length ((subl lst l h).flatMap f)) :: L))) : evO P tb cns ⟨some d, .slice s x lo hi none, t, none⟩ (ofL L) K :=
  qSl_ hh hf hb fun a ha => by rw [partW_no ha]; exact k
theorem qSa {α : Type} {f : α → List V} {lst : List α} {n : Nat} {lo hi : Option Operand} {l h : Int} (hh : sleO tb L true s x lo hi = some (lst.length, lst.flatMap f, n, l, h)) (hf : ∀ x, (f x).length = n) (hb : 0 ≤ l ∧ l ≤ h ∧ h ≤ lst.length) (k : K (ofL ((d, .arg (subl lst l h).length ((subl lst l h).flatMap f)) :: L))) : evO P tb cns ⟨some d, .slice s x lo hi none, t, none⟩ (ofL L) K :=
  qSl_ hh hf hb fun a ha => by rw [partW_arg ha]; exact k
def binO (L : PL) (x y : Operand) : Option (V × V) := obind (opO L x) fun a => obind (opO L y) fun b => some (a, b)
theorem qB {op : BinOp} {ta tc : TypeId} {c1 c2 v : V} (h : binO L x y = some (c1, c2)) (hc : binC (tb ta) op c1 c2) (hv : frc (binV op c1 c2) = some v) (k : K (ofL ((d, v) :: L))) : evO P tb cns ⟨some d, .binOp op ta x y tc, t, none⟩ (ofL L) K := by
  obtain ⟨a, h1, h⟩ := ob_some h
  obtain ⟨b, h2, h⟩ := ob_some h
  cases h
  rw [frc_eq hv] at k
  exact ev_bin (opO_ok h1) (opO_ok h2) hc k
theorem qCs {a b e : TypeId} {es eb : Nat} {ez : List V} {w : List UInt8} {z' : Int} {l : List Int} (hx : obind (opO L x) slOf = some (l.length, l.flatMap cu8)) (h1 : tb a = some (.sl e es eb ez)) (h2 : tb b = some (.sc (.str w))) (h3 : tb e = some (.sc (.int .u8 z'))) (k : K (ofL ((d, .str (bytesOf l)) :: L))) : evO P tb cns ⟨some d, .convert a b x, t, none⟩ (ofL L) K := by
  obtain ⟨c, g1, g2⟩ := ob_some hx
  exact ev_cvs (by rw [opO_ok g1]; exact g2) h1 h2 h3 k
def appO (tb : Tb) (L : PL) (s : TypeId) (p q : Nat) : Option (Nat × List V × Nat × Nat × List V × V × PL) := obind (lk L p) fun a => match a with
  | .own e n cs => obind (takeL L (.tmp p) (.own e n cs)) fun L1 => obind (lk L1 q) fun c => obind (slOf c) fun r => obind (takeL L1 (.tmp q) c) fun L2 => obind (tb s) fun dd => match dd with
    | .sl e' es _ _ => ifB (Nat.beq e e' && c.isVal) (some (n, cs, es, r.1, r.2, c, L2))
    | _ => none
  | _ => none
theorem qA {α : Type} (f : α → List V) (l m : List α) {es p q : Nat} {e : TypeId} {ds : List V} {c : V} {L2 : PL} (h : appO tb L s p q = some (l.length, l.flatMap f, es, m.length, ds, c, L2)) (he : lk L p = some (.own e l.length (l.flatMap f))) (hd : ds.length = m.length * es) (ha : appY c = m.flatMap f) (hl : l.length + m.length ≤ lim)
    (k : K (ofL ((d, .own e (l ++ m).length ((l ++ m).flatMap f)) :: L2))) : evO P tb cns ⟨some d, .call { callee := .builtin .append, args := #[.tmp p, .tmp q], argTypes := #[s, s] }, t, none⟩ (ofL L) K := by
  obtain ⟨a, h1, h⟩ := ob_some h
  rw [he] at h1
  cases h1
  obtain ⟨L1, h2, h⟩ := ob_some h
  obtain ⟨c', h3, h⟩ := ob_some h
  obtain ⟨r, h4, h⟩ := ob_some h
  obtain ⟨L3, h5, h⟩ := ob_some h
  obtain ⟨dd, h6, h⟩ := ob_some h
  cases dd with
  | sl e' es' eb ez =>
    dsimp only at h
    obtain ⟨h7, h⟩ := if_some h
    simp only [Bool.and_eq_true] at h7
    have e1 := Nat.eq_of_beq_eq_true h7.1
    have h := Option.some.inj h
    simp only [Prod.mk.injEq] at h
    obtain ⟨_, _, e2, e3, e4, e5, e6⟩ := h
    subst e1 e2 e5 e6
    have t1 := takeL_ok (x := .tmp p) he h2
    have t2 := takeL_ok (x := .tmp q) h3 h5
    simp only [takeS, lk_ok he] at t1
    have t1' : ofL L1 = upd (ofL L) p (.dat l.length (l.flatMap f)) := t1
    refine ev_app (f := f) (l := l) (m := m) (c2 := c') (ds := ds) (lk_ok he) (by rw [← t1']; exact lk_ok h3) (by rw [h4]; cases r; cases e3; cases e4; rfl) hd h6 ha hl h7.2 ?_
    rw [ofL_cons, t2] at k
    simp only [takeS, lk_ok h3, t1'] at k
    exact k
  | _ => cases h
theorem qAd {α : Type} (f g h' : α → List V) (l m : List α) {es p q : Nat} {e : TypeId} {ds : List V} {c : V} {L2 : PL} (h : appO tb L s p q = some (l.length, l.flatMap f, es, m.length, ds, c, L2)) (he : lk L p = some (.own e l.length (l.flatMap f))) (hd : ds.length = m.length * es) (ha : appY c = m.flatMap h') (hl : l.length + m.length ≤ lim) (hf : ∀ x, (f x).map dg1 = g x) (hh : ∀ x, (h' x).map dg1 = g x) (hfc : ∀ x, (f x).all V.isCell = true) (hhc : ∀ x, (h' x).all V.isCell = true)
    (k : K (ofL ((d, .own e (l ++ m).length ((l ++ m).flatMap g)) :: L2))) : evO P tb cns ⟨some d, .call { callee := .builtin .append, args := #[.tmp p, .tmp q], argTypes := #[s, s] }, t, none⟩ (ofL L) K := by
  obtain ⟨a, h1, h⟩ := ob_some h
  rw [he] at h1
  cases h1
  obtain ⟨L1, h2, h⟩ := ob_some h
  obtain ⟨c', h3, h⟩ := ob_some h
  obtain ⟨r, h4, h⟩ := ob_some h
  obtain ⟨L3, h5, h⟩ := ob_some h
  obtain ⟨dd, h6, h⟩ := ob_some h
  cases dd with
  | sl e' es' eb ez =>
    dsimp only at h
    obtain ⟨h7, h⟩ := if_some h
    simp only [Bool.and_eq_true] at h7
    have e1 := Nat.eq_of_beq_eq_true h7.1
    have h := Option.some.inj h
    simp only [Prod.mk.injEq] at h
    obtain ⟨_, _, e2, e3, e4, e5, e6⟩ := h
    subst e1 e2 e5 e6
    have t1 := takeL_ok (x := .tmp p) he h2
    have t2 := takeL_ok (x := .tmp q) h3 h5
    simp only [takeS, lk_ok he] at t1
    have t1' : ofL L1 = upd (ofL L) p (.dat l.length (l.flatMap f)) := t1
    refine ev_appd (f := f) (g := g) (h := h') (l := l) (m := m) (c2 := c') (ds := ds) (lk_ok he) (by rw [← t1']; exact lk_ok h3) (by rw [h4]; cases r; cases e3; cases e4; rfl) hd h6 ha hl h7.2 hf hh hfc hhc ?_
    rw [ofL_cons, t2] at k
    simp only [takeS, lk_ok h3, t1'] at k
    exact k
  | _ => cases h
def bsO (tb : Tb) (L : PL) (s : TypeId) (n : Nat) (ps : List (Nat × Operand)) : Option (TypeId × Nat × PL × List V) := obind (tb s) fun dd => match dd with
  | .sl e es _ ez => ifB (Nat.ble (n * es) 16777216) (obind (fillO (fun i => some (i * es, es)) ps L (zrow ez es n)) fun q => obind (frcC q.2) fun cs => some (e, es, q.1, cs))
  | _ => none
theorem qBs {α : Type} (f : α → List V) (l : List α) {e : TypeId} {es n : Nat} {ps : Array (Nat × Operand)} {L2 : PL} {cs : List V} (h : bsO tb L s n ps.toList = some (e, es, L2, cs)) (hn : l.length = n) (hc : cs = l.flatMap f) (hf : ∀ x, (f x).length = es) (k : K (ofL ((d, .own e l.length (l.flatMap f)) :: L2))) : evO P tb cns ⟨some d, .buildSlice s n ps, t, none⟩ (ofL L) K := by
  obtain ⟨dd, h1, h⟩ := ob_some h
  cases dd with
  | sl e' es' eb ez =>
    obtain ⟨h2, h⟩ := if_some h
    obtain ⟨q, h3, h⟩ := ob_some h
    obtain ⟨cs', h4, h⟩ := ob_some h
    cases h
    have e1 := frcC_eq h4
    subst hc
    simp only [evO, grdS, bslS, h1, fillO_ok (L' := q.1) (cs' := q.2) h3]
    rw [← e1]
    refine ⟨nb h2, ?_, ?_⟩
    · rw [flat_len hf, hn]
    · rw [hn] at k; exact k
  | _ => cases h
theorem qBk {α : Type} (f : α → List V) (l : List α) (e : TypeId) (es : Nat) {n : Nat} {ps : Array (Nat × Operand)} (h : bsO tb L s n ps.toList = some (e, es, L, l.flatMap f)) (hn : l.length = n) (hf : ∀ x, (f x).length = es) (k : K (ofL ((d, .own e l.length (l.flatMap f)) :: L))) : evO P tb cns ⟨some d, .buildSlice s n ps, t, none⟩ (ofL L) K := qBs f l h hn rfl hf k
def mkO (tb : Tb) (L : PL) (s : TypeId) (x y : Operand) : Option (Int × Int × TypeId × Nat × List V) := obind (opO L x) fun a => obind (opO L y) fun b => match a, b with
  | .int _ n, .int _ m => obind (tb s) fun dd => match dd with
    | .sl e es _ ez => some (n, m, e, es, ez)
    | _ => none
  | _, _ => none
theorem mkO_ok {n m : Int} {e : TypeId} {es : Nat} {ez : List V} (h : mkO tb L s x y = some (n, m, e, es, ez)) : ∃ k0 k1 eb, opV (ofL L) x = .int k0 n ∧ opV (ofL L) y = .int k1 m ∧ tb s = some (.sl e es eb ez) := by
  obtain ⟨a, h1, h⟩ := ob_some h
  obtain ⟨b, h2, h⟩ := ob_some h
  cases a <;> first | (cases h; done) | skip
  cases b <;> first | (cases h; done) | skip
  obtain ⟨dd, h3, h⟩ := ob_some h
  cases dd <;> first | (cases h; done) | skip
  cases h
  exact ⟨_, _, _, opO_ok h1, opO_ok h2, h3⟩
theorem qM {α : Type} (f : α → List V) (z : α) {e : TypeId} {es : Nat} {ez : List V} {n : Int} (hc : cns.contains d = false) (h : mkO tb L s x y = some (n, n, e, es, ez)) (hz : f z = ez) (hez : ez.length = es) (hn : 0 ≤ n ∧ n.toNat ≤ lim) (k : K (ofL ((d, .own e (List.replicate n.toNat z).length ((List.replicate n.toNat z).flatMap f)) :: L))) : evO P tb cns ⟨some d, .makeSlice s x y, t, none⟩ (ofL L) K := by
  obtain ⟨k0, k1, eb, h1, h2, h3⟩ := mkO_ok h
  exact ev_mk hc h1 h2 h3 hz hez hn k
theorem qMu {α : Type} (f : α → List V) (z : α) {e : TypeId} {es : Nat} {ez : List V} {n : Int} (hc : cns.contains d = true) (h : mkO tb L s x y = some (n, n, e, es, ez)) (hz : f z = ez) (hez : ez.length = es) (hn : 0 ≤ n ∧ n.toNat ≤ lim) (hb : nbL L d = true) (k : K (ofL ((d, .uni e (List.replicate n.toNat z).length ((List.replicate n.toNat z).flatMap f)) :: L))) : evO P tb cns ⟨some d, .makeSlice s x y, t, none⟩ (ofL L) K := by
  obtain ⟨k0, k1, eb, h1, h2, h3⟩ := mkO_ok h
  exact ev_mku hc h1 h2 h3 hz hez hn (nbL_ok hb) k
def killL (D : List Nat) (L : PL) : PL := L.map fun p => (p.1, if D.contains p.1 = true then .undef else match refOf p.2 with
  | some b => if D.contains b = true then .undef else p.2
  | none => p.2)
theorem killL_ok (D : List Nat) : ∀ L : PL, ofL (killL D L) = kill D (ofL L)
  | [] => by funext s; simp [killL, ofL, kill, refOf]
  | (q, c) :: L => by
    have ih := killL_ok D L
    funext s
    show ofL ((q, _) :: killL D L) s = _
    rw [ofL_cons]
    by_cases e : s = q
    · subst e
      rw [upd_same]
      unfold kill
      rw [ofL_cons, upd_same]
      rfl
    · rw [upd_ne _ _ e, ih]
      unfold kill
      rw [ofL_cons, upd_ne _ _ e]
def frL : PL → Option PL
  | [] => some []
  | (s, .undef) :: L => obind (frL L) fun L' => some ((s, .undef) :: L')
  | (s, c) :: L => obind (frc c) fun c => obind (frL L) fun L' => some ((s, c) :: L')
theorem frL_eq : ∀ {L L' : PL}, frL L = some L' → L' = L
  | [], _, h => by cases h; rfl
  | (s, c) :: L, L', h => by
    unfold frL at h
    split at h
    · rename_i he; cases he
    · rename_i he; cases he
      obtain ⟨L1, h1, h⟩ := ob_some h
      cases h; rw [frL_eq h1]
    · rename_i he; cases he
      obtain ⟨c1, h0, h⟩ := ob_some h
      obtain ⟨L1, h1, h⟩ := ob_some h
      cases h; rw [frL_eq h1, frc_eq h0]
theorem qTu {e : TypeId} {n : Nat} {cs : List V} {L1 : PL} (hc : cns.contains d = true) (h : lk L s = some (.uni e n cs)) (hk : frL (killL [s] L) = some L1) (k : K (ofL ((d, .own e n cs) :: (s, .dat n cs) :: L1))) : evO P tb cns ⟨some d, .move (.tmp s), t, none⟩ (ofL L) K := by
  rw [frL_eq hk] at k
  refine ev_mvtu hc (lk_ok h) ?_
  rw [← killL_ok]; exact k
theorem qAu {e : TypeId} {n : Nat} {cs : List V} {L1 : PL} (hc : cns.contains d = true) (h : lk L s = some (.uni e n cs)) (hk : frL (killL [s] L) = some L1) (hn : nbL L1 d = true) (k : K (ofL ((d, .uni e n cs) :: L1))) : evO P tb cns ⟨some d, .assign (.tmp s), t, none⟩ (ofL L) K := by
  have e1 := frL_eq hk
  subst e1
  refine ev_asu hc (lk_ok h) (by rw [← killL_ok]; exact nbL_ok hn) ?_
  rw [← killL_ok]; exact k
def iuO (tb : Tb) (L : PL) (s : TypeId) (x y : Operand) : Option (Nat × Nat × Int × Nat) := obind (opO L x) fun a => match a with
  | .same b => obind (lk L b) fun u => match u with
    | .uni _ n _ => obind (opO L y) fun c => match c with
      | .int _ i => obind (tb s) fun dd => match dd with
        | .sl _ es _ _ => some (b, n, i, es)
        | _ => none
      | _ => none
    | _ => none
  | _ => none
theorem qIu {b n es : Nat} {i : Int} (h : iuO tb L s x y = some (b, n, i, es)) (hi : 0 ≤ i ∧ i < n) (k : K (ofL ((d, .cref b (i.toNat * es)) :: L))) : evO P tb cns ⟨some d, .indexAddr s x y, t, none⟩ (ofL L) K := by
  obtain ⟨a, h1, h⟩ := ob_some h
  cases a <;> first | (cases h; done) | skip
  obtain ⟨u, h2, h⟩ := ob_some h
  cases u <;> first | (cases h; done) | skip
  obtain ⟨c, h3, h⟩ := ob_some h
  cases c <;> first | (cases h; done) | skip
  obtain ⟨dd, h4, h⟩ := ob_some h
  cases dd <;> first | (cases h; done) | skip
  cases h
  exact ev_iau (opO_ok h1) (lk_ok h2) (opO_ok h3) h4 hi k
theorem qLu {α : Type} {f : α → List V} {n b m : Nat} (off : Nat) {l : List α} {i : Int} {e : α} {et : TypeId} {dd : TyD} {v : V} (hc : cns.contains d = false) (hx : adO L x = some (.cref b (i.toNat * n + off))) (hb : lk L b = some (.uni et m (l.flatMap f))) (hf : ∀ x, (f x).length = n) (hi : geti l i = some e) (ht : tb s = some dd) (ho : Nat.ble (off + dd.size) n = true) (hg : frc (getCells dd (f e) off) = some v) (k : K (ofL ((d, v) :: L))) : evO P tb cns ⟨some d, .load s x, t, none⟩ (ofL L) K := by
  rw [frc_eq hg] at k
  exact ev_ldU hc (adO_ok hx) (lk_ok hb) hf hi ht (nb ho) rfl k
theorem qSu {ty : TypeId} {α : Type} {f : α → List V} {n b : Nat} {l : List α} {i : Int} (e : α) {et : TypeId} {dd : TyD} {c1 : V} {L1 : PL} (hx : adO L x = some (.cref b (i.toNat * n))) (hb : lk L b = some (.uni et l.length (l.flatMap f))) (hf : ∀ x, (f x).length = n) (hi : 0 ≤ i ∧ i < l.length) (hy : opO L y = some c1) (ht : tb t = some dd) (ha : c1.isArg = true) (hn : n = dd.size) (hc : cellsV c1 = f e) (hL : takeL L y c1 = some L1)
    (k : K (ofL ((b, .uni et (seti l i e).length ((seti l i e).flatMap f)) :: L1))) : evO P tb cns ⟨none, .store t x y, ty, none⟩ (ofL L) K := by
  refine ev_stu (adO_ok hx) (lk_ok hb) hf hi (opO_ok hy) ht ha hn hc ?_
  rw [← takeL_ok hy hL]; exact k
theorem qr (q : Nat) {c b : Bool} {ops : List LO} (e : c = b) (h : lk L q = some (.bool b)) (k : evS P tb cns ops (ofL ((q, .bool c) :: L)) K) : evS P tb cns ops (ofL L) K := by rw [lit_eq e.symm h] at k; exact k
theorem qrd (q : Nat) {c b : Bool} {fps : List (List Nat × List Nat)} {ops : List LO} (e : c = b) (h : lk L q = some (.bool b)) (k : evD P tb cns fps ops (ofL ((q, .bool c) :: L)) K) : evD P tb cns fps ops (ofL L) K := by rw [lit_eq e.symm h] at k; exact k
end
section
variable {P : Program} {nt : Nat} {bx : List Nat} {Q : Exit → PS → Prop} {L : PL}
theorem qT {s : Nat} {x y : LC} {b : Bool} (hb : lk L s = some (.bool b)) (e : b = true) (h : LS P nt bx x (ofL L) Q) : LS P nt bx (.cond (.tmp s) x y) (ofL L) Q := ls_cT (lk_ok hb) e h
theorem qF {s : Nat} {x y : LC} {b : Bool} (hb : lk L s = some (.bool b)) (e : b = false) (h : LS P nt bx y (ofL L) Q) : LS P nt bx (.cond (.tmp s) x y) (ofL L) Q := ls_cF (lk_ok hb) e h
end
section
variable {P : Program} {tb : Tb} {cns : List Nat} {L : PL} {K : PS → Prop} {d s t : Nat} {x : Operand}
theorem qFd {f : Nat} (off : Nat) {v : V} (hf : fldT P s f = some off) (h : obind (opO L x) (fun a => match a with
  | .agg cs => obind (cs[off]?) fun c => frc (dg1 c)
  | _ => none) = some v) (k : K (ofL ((d, v) :: L))) : evO P tb cns ⟨some d, .field s x f, t, none⟩ (ofL L) K := by
  obtain ⟨a, h1, h⟩ := ob_some h
  cases a with
  | agg cs =>
    obtain ⟨c, h2, h⟩ := ob_some h
    rw [frc_eq h] at k
    simp only [evO, grdS, fldS, hf, opO_ok h1, h2]
    exact k
  | _ => cases h
end
def stepA (tb : Tb) (cns : List Nat) : List LO → PL → Option PL
  | [], L => some L
  | o :: os, L => obind (stepO tb cns o L) fun L' => stepA tb cns os L'
def runR (tb : Tb) : Nat → LC → PL → Option (LC × PL)
  | 0, l, L => some (l, L)
  | n + 1, .seq (.rgn cns ops) y, L => obind (stepA tb cns ops L) fun L' => runR tb n y L'
  | _ + 1, _, _ => none
section
variable {P : Program} {nt : Nat} {bx : List Nat} {Q : Exit → PS → Prop} {tb : Tb}
theorem stepA_ok {cns : List Nat} {K : PS → Prop} : ∀ {ops : List LO} {L L' : PL}, stepA tb cns ops L = some L' → K (ofL L') → evS P tb cns ops (ofL L) K
  | [], _, _, h, k => by cases h; exact k
  | o :: ops, L, _, h, k => by
    rw [stepA] at h
    obtain ⟨L1, h1, h⟩ := ob_some h
    exact stepO_ok (K := fun σ' => evS P tb cns ops σ' K) h1 (stepA_ok h k)
theorem runR_ok (htb : TbOk P tb) : ∀ {n : Nat} {l l' : LC} {L L' : PL}, runR tb n l L = some (l', L') → LS P nt bx l' (ofL L') Q → LS P nt bx l (ofL L) Q
  | 0, _, _, _, _, h, k => by cases h; exact k
  | n + 1, l, l', L, L', h, k => by
    cases l with
    | seq a y =>
      cases a with
      | rgn cns ops =>
        obtain ⟨L1, h1, h⟩ := ob_some (show obind (stepA tb cns ops L) (fun L' => runR tb n y L') = _ from h)
        exact ls_rs htb (stepA_ok h1 (runR_ok htb h k))
      | _ => exact nomatch (show none = some _ from h)
    | _ => exact nomatch (show none = some _ from h)
abbrev Jn (K : PS → Prop) (L : PL) : Prop := ∀ σ : PS, okK σ L → K σ
theorem lh {l : LC} {σ : PS} {L : PL} (hk : okK σ L) (h2 : okR L = true) (h : LS P nt bx l (ofL L) Q) : LS P nt bx l σ Q := ls_keep L hk h2 h
end
theorem rL {α : Type} {p : α → Prop} {e r : α} (h : some e = some r) (k : p e) : p r := by cases h; exact k
theorem rM {α β : Type} {g : α → Option β} {e o : α} {e' r : β} (h : some e = some o) (hr : g o = some r) (hg : g e = some e') : some e' = some r := by cases h; rw [← hg]; exact hr
def mvO' (cns : List Nat) (o : LO) : Bool := match o.op, o.dst with
  | .move _, some d => !cns.contains d
  | _, _ => false
def fpO (base : List (Nat × Nat)) (cns : List Nat) (o : LO) : List Nat × List Nat := match spc cns o with
  | true => ([], o.dst.toList)
  | false =>
  let R := opdT o.op ++ match o.op with
    | .alloc _ => o.dst.toList
    | .call _ => o.dst.toList.filter cns.contains
    | _ => []
  let R := R ++ match mvO' cns o with
    | true => []
    | false => base.filterMap fun p => if R.contains p.1 then some p.2 else none
  (R ++ gT o, o.dst.toList ++ if simple cns o = true then base.filterMap (fun p => if (adC o.op).contains p.1 then some p.2 else none) else R)
def cnO : List (Nat × List Nat) → Nat → List Nat
  | [], _ => []
  | (i, c) :: r, id => match Nat.beq id i with
    | true => c
    | false => cnO r id
def litK (base : List (Nat × Nat)) (cn : List (Nat × List Nat)) : Code → LC
  | .skip => .skip
  | .region id ops d => match d with
    | true => .drw (cnO cn id) ((ops.toList.map (liteO ops)).map (fpO base (cnO cn id))) (ops.toList.map edg) (ops.toList.map (liteO ops))
    | false => .rgn (cnO cn id) (ops.toList.map (liteO ops))
  | .seq a b => .seq (litK base cn a) (litK base cn b)
  | .cond c a b => .cond c (litK base cn a) (litK base cn b)
  | .block id a => .blk id (litK base cn a)
  | .loop a => .loop [] (litK base cn a)
  | .exit id => .exit id
  | .ret => .ret
  | _ => .bad
theorem litK_er (base : List (Nat × Nat)) (cn : List (Nat × List Nat)) : ∀ c : Code, liteC c = erC (litK base cn c)
  | .skip => rfl
  | .region id ops d => by cases d <;> simp [liteC, litK, erC]
  | .seq a b => by rw [liteC, litK, erC, litK_er base cn a, litK_er base cn b]
  | .cond c a b => by rw [liteC, litK, erC, litK_er base cn a, litK_er base cn b]
  | .block id a => by rw [liteC, litK, erC, litK_er base cn a]
  | .loop a => by rw [liteC, litK, erC, litK_er base cn a]
  | .exit id => rfl
  | .ret => rfl
  | .rangeFunc .. => rfl
  | .scope .. => rfl
  | .label .. => rfl
  | .goto .. => rfl
  | .refuse .. => rfl
def cdF (f : Func) : Code := match f.body with
  | some c => c
  | none => .skip
def chkF (bx : List Nat) (base : List (Nat × Nat)) (cn : List (Nat × List Nat)) (fn : Func) : Bool :=
  fn.body.isSome && ((fn.name == "runtime.NumGoroutine") == false && (okC fn.ntmps bx (cdF fn) && (decide (fn.results.toList.map rvSlot).Nodup && okL bx (litK base cn (cdF fn)))))
theorem litOf {P : Program} {f : Nat} {fn : Func} {bx : List Nat} {base : List (Nat × Nat)} {cn : List (Nat × List Nat)} (h1 : P.funcs[f]? = some fn) (h2 : chkF bx base cn fn = true) : Lit P f fn.ntmps bx fn.results.toList (litK base cn (cdF fn)) := by
  simp only [chkF, Bool.and_eq_true] at h2
  obtain ⟨h2, h3, h4, h5, h6⟩ := h2
  obtain ⟨c, hc⟩ := Option.isSome_iff_exists.1 h2
  refine ⟨⟨fn, c, h1, hc, eq_of_beq h3, rfl, rfl, ?_, ?_⟩, of_decide_eq_true h5, h6⟩
  · rw [← litK_er]; unfold cdF; rw [hc]
  · unfold cdF at h4; rw [hc] at h4; exact h4
end Go.Proofs.YtkclaipnejgloaaDoor

namespace Go.Proofs.YtkclaipnejgloaaDoor
open Go.RowKit
theorem loop_to {S O : Type} {body : (S → Option O) → S → Option O} {out : O} (f : Nat → S) : ∀ (n : Nat), (∀ k, k < n → ∀ rec, body rec (f k) = rec (f (k + 1))) → (∀ rec, body rec (f n) = some out) → ∀ m, n < m → loopF body m (f 0) = some out := by
  have key : ∀ (d n : Nat), (∀ k, k < n → ∀ rec, body rec (f k) = rec (f (k + 1))) → (∀ rec, body rec (f n) = some out) → ∀ k, k + d = n → ∀ m, d < m → loopF body m (f k) = some out := by
    intro d n h1 h2
    induction d with
    | zero =>
      intro k hk m hm
      cases m with
      | zero => omega
      | succ m => rw [show k = n by omega]; exact h2 _
    | succ d ih =>
      intro k hk m hm
      cases m with
      | zero => omega
      | succ m =>
        show body (loopF body m) (f k) = some out
        rw [h1 k (by omega)]
        exact ih (k + 1) (by omega) m (by omega)
  intro n h1 h2 m hm
  exact key n n h1 h2 0 (by omega) m hm
theorem wrap_in {n : Int} (h : -9223372036854775808 ≤ n ∧ n ≤ 9223372036854775807) : IntKind.i64.wrap n = n := by
  unfold IntKind.wrap
  simp [IntKind.signed, IntKind.bits] <;> omega
theorem wrap_s {k n : Nat} (h : k < n) (hn : n ≤ maxLen) : IntKind.i64.wrap ((k : Int) + 1) = ((k + 1 : Nat) : Int) := by
  rw [wrap_in (by unfold maxLen at hn; omega)]; simp
theorem geti_nat {α : Type} (l : List α) (k : Nat) : geti l (k : Int) = l[k]? := by simp [geti]
theorem geti_at {α : Type} {l : List α} {k : Nat} (h : k < l.length) : geti l (k : Int) = some l[k] := by rw [geti_nat, List.getElem?_eq_getElem h]
theorem lt_fz {n : Nat} (h : n ≤ lim) : n < fz := by unfold lim at h; unfold fz; omega
theorem to_loop {α β : Type} {a : List α} {g : α → Option β} {h : α → β} {B : (List β × Int → Option (List β)) → List β × Int → Option (List β)} {z : β}
    (hB : ∀ rec y i, B rec (y, i) = cond (decide (i < (List.length a : Int))) (obind (geti a i) fun e => obind (g e) fun v => obind (geti y i) fun _ => rec (seti y i v, IntKind.i64.wrap (i + 1))) (some y))
    (hg : ∀ e ∈ a, g e = some (h e)) (hl : a.length ≤ lim) : loopF B fz (List.replicate (Int.toNat (List.length a : Int)) z, 0) = some (a.map h) := by
  have := loop_to (body := B) (out := a.map h) (fun k => ((a.take k).map h ++ List.replicate (a.length - k) z, (k : Int))) a.length (fun k hk rec => ?_) (fun rec => ?_) fz (lt_fz hl)
  · simpa using this
  · rw [hB]
    have h1 : (decide ((k : Int) < (List.length a : Int))) = true := by simp; omega
    have hlen : ((a.take k).map h ++ List.replicate (a.length - k) z).length = a.length := by simp; omega
    rw [h1, cond_true, geti_at hk]
    simp only [obind]
    rw [hg _ (List.getElem_mem hk)]
    simp only
    rw [geti_at (by rw [hlen]; exact hk)]
    simp only
    congr 1
    rw [wrap_s hk (lim_max hl)]
    congr 1
    unfold seti
    rw [Int.toNat_natCast]
    have h2 : ((a.take k).map h).length = k := by simp; omega
    rw [List.set_append_right _ _ (by omega), h2, Nat.sub_self, List.take_succ_eq_append_getElem hk, List.map_append]
    have h3 : a.length - k = (a.length - (k + 1)) + 1 := by omega
    rw [h3, List.replicate_succ]
    simp
  · rw [hB]
    simp
theorem eq_loop {α : Type} {a : List α} {g : α → α → Option Bool} {B : (Int → Option (Sum Unit Bool)) → Int → Option (Sum Unit Bool)}
    (hB : ∀ rec i, B rec i = cond (decide (i < (List.length a : Int))) (obind (geti a i) fun x => obind (geti a i) fun y => obind (g x y) fun v => cond (!v) (some (.inr false)) (rec (IntKind.i64.wrap (i + 1)))) (some (.inl ())))
    (hg : ∀ e ∈ a, g e e = some true) (hl : a.length ≤ lim) : loopF B fz 0 = some (.inl ()) := by
  refine loop_to (body := B) (fun k => (k : Int)) a.length (fun k hk rec => ?_) (fun rec => ?_) fz (lt_fz hl)
  · rw [hB]
    have h1 : (decide ((k : Int) < (List.length a : Int))) = true := by simp; omega
    rw [h1, cond_true, geti_at hk]
    simp only [obind, hg _ (List.getElem_mem hk), Bool.not_true, cond_false]
    rw [wrap_s hk (lim_max hl)]
  · rw [hB]; simp
theorem chk_pos {α : Type} {p : Prop} [Decidable p] {x : Option α} (h : p) : chk p x = x := by unfold chk; rw [if_pos h]
theorem make_ok {n : Nat} (h : n ≤ lim) : (0 : Int) ≤ (n : Int) ∧ Int.toNat (n : Int) ≤ lim := by rw [Int.toNat_natCast]; exact ⟨by omega, h⟩
theorem sm_lim {n : Nat} (h : n ≤ 1048576) : n ≤ lim := by unfold lim; omega
def SzR (left : Int) (s : Option Int) (sm : Prop) (t : Nat) : Prop := ∃ v, s = some v ∧ (v < 0 ∨ (v + (t : Int) ≤ left ∧ 0 ≤ v ∧ sm))
def tzL {α : Type} (f : α → Nat) : List α → Nat
  | [] => 0
  | x :: l => f x + tzL f l
theorem tzL_app {α : Type} {f : α → Nat} : ∀ (a b : List α), tzL f (a ++ b) = tzL f a + tzL f b
  | [], b => by simp [tzL]
  | x :: a, b => by rw [List.cons_append, tzL, tzL, tzL_app a b]; omega
theorem sz_w {n : Nat} {left : Int} (h : 0 ≤ left ∧ left ≤ 1048576) (hn : n ≤ maxLen) : ∃ v, IntKind.i64.wrap (left - (n : Int)) = v ∧ (v < 0 ∨ (v + (n : Int) ≤ left ∧ 0 ≤ v ∧ n ≤ 1048576)) := by
  rw [wrap_in (by unfold maxLen at hn; omega)]
  refine ⟨_, rfl, ?_⟩
  by_cases hl : left - (n : Int) < 0
  · exact .inl hl
  · exact .inr ⟨by omega, by omega, by omega⟩
theorem sz_len {n : Nat} {left : Int} (h : 0 ≤ left ∧ left ≤ 1048576) (hn : n ≤ maxLen) : SzR left (cond (decide ((IntKind.i64.wrap (left - (n : Int))) < 0)) (some (-1)) (some (IntKind.i64.wrap (left - (n : Int))))) (n ≤ 1048576) n := by
  obtain ⟨v, e, p⟩ := sz_w h hn
  rw [e]
  rcases p with p | p
  · rw [decide_eq_true p]; exact ⟨-1, rfl, .inl (by omega)⟩
  · rw [decide_eq_false (by omega : ¬ v < 0)]; exact ⟨v, rfl, .inr p⟩
theorem sz_list {α : Type} {a : List α} {g : α → Int → Option Int} {sm : α → Prop} {tz : α → Nat} {B : (Int × Int → Option (Sum Int Int)) → Int × Int → Option (Sum Int Int)}
    (hB : ∀ rec l i, B rec (l, i) = cond (decide (i < (List.length a : Int))) (obind (geti a i) fun e => obind (g e l) fun v => cond (decide (v < 0)) (some (.inr (-1))) (rec (v, IntKind.i64.wrap (i + 1)))) (some (.inl l)))
    (hg : ∀ e ∈ a, ∀ left, 0 ≤ left ∧ left ≤ 1048576 → SzR left (g e left) (sm e) (tz e)) {left : Int} (h : 0 ≤ left ∧ left ≤ 1048576) (hn : a.length ≤ maxLen) :
    SzR left (cond (decide ((IntKind.i64.wrap (left - (List.length a : Int))) < 0)) (some (-1)) (obind (loopF B fz (IntKind.i64.wrap (left - (List.length a : Int)), 0)) fun o => (match o with
      | .inl z => some z
      | .inr r => some r))) (a.length ≤ 1048576 ∧ ∀ e ∈ a, sm e) (a.length + tzL tz a) := by
  obtain ⟨v, e, p⟩ := sz_w h hn
  rw [e]
  rcases p with p | ⟨p1, p2, p3⟩
  · rw [decide_eq_true p]; exact ⟨-1, rfl, .inl (by omega)⟩
  rw [decide_eq_false (by omega : ¬ v < 0), cond_false]
  have key : ∀ d k l, k + d = a.length → 0 ≤ l ∧ l + (tzL tz (a.take k) : Int) ≤ v → (∀ e ∈ a.take k, sm e) → ∀ m, d < m → ∃ o, loopF B m (l, (k : Int)) = some o ∧ (o = .inr (-1) ∨ ∃ z, o = .inl z ∧ 0 ≤ z ∧ z + (tzL tz a : Int) ≤ v ∧ ∀ e ∈ a, sm e) := by
    intro d
    induction d with
    | zero =>
      intro k l hk hl hs m hm
      cases m with
      | zero => omega
      | succ m =>
        rw [List.take_of_length_le (by omega)] at hl
        refine ⟨.inl l, ?_, .inr ⟨l, rfl, hl.1, hl.2, ?_⟩⟩
        · show B (loopF B m) (l, (k : Int)) = _
          rw [hB]
          rw [decide_eq_false (by omega : ¬ (k : Int) < (List.length a : Int))]
          rfl
        · rw [List.take_of_length_le (by omega)] at hs; exact hs
    | succ d ih =>
      intro k l hk hl hs m hm
      cases m with
      | zero => omega
      | succ m =>
        have hlt : k < a.length := by omega
        obtain ⟨u, e1, q⟩ := hg a[k] (List.getElem_mem hlt) l (by omega)
        have hstep : loopF B (m + 1) (l, (k : Int)) = cond (decide (u < 0)) (some (.inr (-1))) (loopF B m (u, ((k + 1 : Nat) : Int))) := by
          show B (loopF B m) (l, (k : Int)) = _
          rw [hB, decide_eq_true (by omega : (k : Int) < (List.length a : Int)), cond_true, geti_at hlt]
          simp only [obind, e1, wrap_s hlt hn]
        rcases q with q | ⟨q1, q2, q3⟩
        · exact ⟨.inr (-1), by rw [hstep, decide_eq_true q]; rfl, .inl rfl⟩
        · rw [hstep, decide_eq_false (by omega : ¬ u < 0), cond_false]
          have ht : tzL tz (a.take (k + 1)) = tzL tz (a.take k) + tz a[k] := by rw [List.take_succ_eq_append_getElem hlt, tzL_app]; simp [tzL]
          exact ih (k + 1) u (by omega) (by rw [ht]; omega) (fun e he => by
            rw [List.take_succ_eq_append_getElem hlt] at he
            rcases List.mem_append.1 he with he | he
            · exact hs e he
            · rw [List.mem_singleton.1 he]; exact q3) m (by omega)
  obtain ⟨o, e2, q⟩ := key a.length 0 v (by omega) (by simp [tzL]; omega) (by simp) fz (lt_fz (sm_lim p3))
  have e3 : loopF B fz (v, 0) = some o := by simpa using e2
  rw [e3]
  rcases q with rfl | ⟨z, rfl, q1, q2, q3⟩
  · exact ⟨-1, rfl, .inl (by omega)⟩
  · exact ⟨z, rfl, .inr ⟨by omega, q1, p3, q3⟩⟩
end Go.Proofs.YtkclaipnejgloaaDoor

namespace Go.Proofs.YtkclaipnejgloaaDoor
open Go.RowKit
set_option linter.unusedVariables false
def pinC (u : Value) : V → V
  | .own _ n cs => .pin u n (erL cs)
  | c => c
def isOwn : V → Bool
  | .own _ _ _ => true
  | _ => false
def isSc : V → Bool
  | .int _ _ => true
  | .bool _ => true
  | .str _ => true
  | _ => false
def oneOwn : List V → Bool
  | [] => false
  | c :: cs => (isOwn c && cs.all isSc) || (isSc c && oneOwn cs)
def tokC : List V → V
  | [] => .undef
  | c :: cs => match c with
    | .own e n ds => .own e n ds
    | _ => tokC cs
section
variable {P : Program} {w : World} {St : Nat → Nat → Prop}
theorem sc_ow {c : V} {v : Value} {b : List Nat} (hs : isSc c = true) (h : Ow P w St c v b) : b = [] := by
  cases c <;> first | exact h.1 | cases hs
theorem sc_pin {c : V} (u : Value) (hs : isSc c = true) : pinC u c = c := by cases c <;> first | rfl | cases hs
theorem sc_row : ∀ {cs : List V} {us : List Value} {b : List Nat}, cs.all isSc = true → OwRow P w St cs us b → b = []
  | [], _, _, _, h => h.2
  | c :: cs, _, _, hs, ⟨u, us', b1, b2, e1, e2, hc, h1, h2⟩ => by
    simp only [List.all_cons, Bool.and_eq_true] at hs
    rw [e2, sc_ow hs.1 h1, sc_row hs.2 h2]; rfl
theorem sc_pins : ∀ {cs : List V} (u : Value), cs.all isSc = true → cs.map (pinC u) = cs
  | [], _, _ => rfl
  | c :: cs, u, hs => by
    simp only [List.all_cons, Bool.and_eq_true] at hs
    rw [List.map_cons, sc_pin u hs.1, sc_pins u hs.2]
theorem own_pin {e : TypeId} {n : Nat} {cs : List V} {u : Value} {b : List Nat} (h : Ow P w St (.own e n cs) u b) : Ow P w St (.pin u n (erL cs)) u [] := by
  have := Rd.erase _ (Ow.rd (.own e n cs) h rfl)
  exact ⟨rfl, rfl, this⟩
theorem tok_own : ∀ {ds : List V}, oneOwn ds = true → ∃ e n cs, tokC ds = .own e n cs
  | [], h => by cases h
  | c :: cs, h => by
    simp only [oneOwn, Bool.or_eq_true, Bool.and_eq_true] at h
    rcases h with ⟨h1, h2⟩ | ⟨h1, h2⟩
    · cases c <;> first | exact ⟨_, _, _, rfl⟩ | cases h1
    · obtain ⟨e, n, cs', e1⟩ := tok_own h2
      cases c <;> first | (cases h1; done) | exact ⟨e, n, cs', e1⟩
theorem one_split : ∀ {ds : List V} {xs : List Value} {b : List Nat}, oneOwn ds = true → OwRow P w St ds xs b → ∃ u, Ow P w St (tokC ds) u b ∧ OwRow P w St (ds.map (pinC u)) xs []
  | [], _, _, h, _ => by cases h
  | c :: cs, _, _, h, ⟨u, us', b1, b2, e1, e2, hc, h1, h2⟩ => by
    simp only [oneOwn, Bool.or_eq_true, Bool.and_eq_true] at h
    rcases h with ⟨g1, g2⟩ | ⟨g1, g2⟩
    · have hb := sc_row g2 h2
      subst hb
      rw [List.append_nil] at e2
      subst e2
      cases c <;> first | (cases g1; done) | skip
      refine ⟨u, h1, ?_⟩
      rw [List.map_cons, sc_pins u g2]
      exact ⟨u, us', [], [], e1, rfl, rfl, own_pin h1, h2⟩
    · have hb := sc_ow g1 h1
      subst hb
      rw [List.nil_append] at e2
      subst e2
      obtain ⟨u', h3, h4⟩ := one_split g2 h2
      refine ⟨u', ?_, ?_⟩
      · cases c <;> first | (cases g1; done) | exact h3
      · rw [List.map_cons, sc_pin u' g1]
        exact ⟨u, us', [], [], e1, rfl, hc, h1, h4⟩
theorem one_join : ∀ {ds : List V} {xs : List Value} {b0 b : List Nat} {u : Value}, oneOwn ds = true → OwRow P w St (ds.map (pinC u)) xs b0 → Ow P w St (tokC ds) u b → OwRow P w St ds xs b
  | [], _, _, _, _, h, _, _ => by cases h
  | c :: cs, _, _, b, u, h, ⟨u', us', b1, b2, e1, e2, hc, h1, h2⟩, ht => by
    simp only [oneOwn, Bool.or_eq_true, Bool.and_eq_true] at h
    rcases h with ⟨g1, g2⟩ | ⟨g1, g2⟩
    · cases c <;> first | (cases g1; done) | skip
      have hu : u' = u := h1.2.1
      subst hu
      change OwRow P w St (cs.map (pinC u')) us' b2 at h2
      rw [sc_pins u' g2] at h2
      have hb := sc_row g2 h2
      subst hb
      exact ⟨u', us', b, [], e1, by simp, rfl, ht, h2⟩
    · have ht' : Ow P w St (tokC cs) u b := by cases c <;> first | (cases g1; done) | exact ht
      change Ow P w St (pinC u c) u' b1 at h1
      rw [sc_pin u g1] at h1
      have hb := sc_ow g1 h1
      subst hb
      have h3 := one_join g2 h2 ht'
      have hcc : c.isCell = true := by cases c <;> first | rfl | cases g1
      exact ⟨u', us', [], b, e1, by simp, hcc, h1, h3⟩
end
def enumP {α : Type} (k : Nat) : List α → List (Nat × α)
  | [] => []
  | x :: l => (k, x) :: enumP (k + 1) l
def pE {α : Type} (f : α → List V) (U : Nat → Value) (p : Nat × α) : List V := (f p.2).map (pinC (U p.1))
def mE {α : Type} (f : α → List V) (U : Nat → Value) : Nat × α ⊕ α → List V
  | .inl p => pE f U p
  | .inr x => f x
def getM {α : Type} : Nat × α ⊕ α → α
  | .inl p => p.2
  | .inr x => x
def okJ {α : Type} [BEq α] (l : List α) : List (Nat × α ⊕ α) → List Nat → Bool
  | [], _ => true
  | .inl p :: L, seen => (match l[p.1]? with
    | some x => x == p.2
    | none => false) && !seen.contains p.1 && okJ l L (p.1 :: seen)
  | .inr _ :: L, seen => okJ l L seen
section
variable {P : Program} {w : World} {St : Nat → Nat → Prop} {α : Type} {f : α → List V}
theorem ow_split (h1 : ∀ x, oneOwn (f x) = true) : ∀ (l : List α) (k : Nat) {xs : List Value} {bs : List Nat}, OwRow P w St (l.flatMap f) xs bs →
    ∃ us : List Value, us.length = l.length ∧ OwRow P w St (l.map fun x => tokC (f x)) us bs ∧ ∀ U : Nat → Value, (∀ i, i < l.length → U (k + i) = us.getD i undef) → OwRow P w St ((enumP k l).flatMap (pE f U)) xs []
  | [], k, _, _, h => ⟨[], rfl, ⟨rfl, h.2⟩, fun U _ => ⟨h.1, rfl⟩⟩
  | x :: l, k, xs, bs, h => by
    rw [List.flatMap_cons] at h
    obtain ⟨xs1, xs2, b1, b2, rfl, rfl, r1, r2⟩ := h.app
    obtain ⟨u, h3, h4⟩ := one_split (h1 x) r1
    obtain ⟨us, hl, h5, h6⟩ := ow_split h1 l (k + 1) r2
    obtain ⟨e, n, cs, et⟩ := tok_own (h1 x)
    refine ⟨u :: us, by simp [hl], ⟨u, us, b1, b2, rfl, rfl, by show (tokC (f x)).isCell = true; rw [et]; rfl, h3, h5⟩, fun U hU => ?_⟩
    have hu : U k = u := by have := hU 0 (by simp); simpa using this
    rw [enumP, List.flatMap_cons]
    have := OwRow.join (b1 := []) (b2 := []) (show OwRow P w St (pE f U (k, x)) xs1 [] by unfold pE; rw [hu]; exact h4) (h6 U (fun i hi => by
      have := hU (i + 1) (by simp; omega)
      have e : k + 1 + i = k + (i + 1) := by omega
      rw [e, this]; simp))
    exact this
theorem row_parts : ∀ {cs : List V} {us : List Value} {bs : List Nat}, OwRow P w St cs us bs → bs.Nodup → ∃ β : Nat → List Nat, (∀ i c u, cs[i]? = some c → us[i]? = some u → Ow P w St c u (β i)) ∧ (∀ i, ∀ g ∈ β i, g ∈ bs) ∧ (∀ i, (β i).Nodup) ∧ ∀ i j, i ≠ j → ∀ g ∈ β i, g ∉ β j
  | [], _, _, h, _ => ⟨fun _ => [], by simp, by simp, fun _ => List.nodup_nil, by simp⟩
  | c :: cs, _, _, ⟨u, us', b1, b2, e1, e2, hc, h1, h2⟩, hn => by
    subst e1 e2
    obtain ⟨n1, n2, n3⟩ := List.nodup_append.1 hn
    obtain ⟨β, k1, k2, k3, k4⟩ := row_parts h2 n2
    refine ⟨fun i => match i with | 0 => b1 | i + 1 => β i, ?_, ?_, ?_, ?_⟩
    · intro i c' u' hc' hu'
      cases i with
      | zero => simp only [List.getElem?_cons_zero, Option.some.injEq] at hc' hu'; subst hc' hu'; exact h1
      | succ i => exact k1 i c' u' (by simpa using hc') (by simpa using hu')
    · intro i g hg
      cases i with
      | zero => exact List.mem_append_left _ hg
      | succ i => exact List.mem_append_right _ (k2 i g hg)
    · intro i
      cases i with
      | zero => exact n1
      | succ i => exact k3 i
    · intro i j hij g hg hg'
      cases i with
      | zero =>
        cases j with
        | zero => exact hij rfl
        | succ j => exact n3 g hg g (k2 j g hg') rfl
      | succ i =>
        cases j with
        | zero => exact n3 g hg' g (k2 i g hg) rfl
        | succ j => exact k4 i j (by omega) g hg hg'
theorem ow_join [BEq α] [LawfulBEq α] (h1 : ∀ x, oneOwn (f x) = true) {l : List α} {us : List Value} {bs : List Nat} (ht : OwRow P w St (l.map fun x => tokC (f x)) us bs) (hn : bs.Nodup) {U : Nat → Value} (hU : ∀ i, i < l.length → U i = us.getD i undef) :
    ∀ (L : List (Nat × α ⊕ α)) {xs : List Value} {b0 : List Nat}, okJ l L [] = true → OwRow P w St (L.flatMap (mE f U)) xs b0 → b0.Nodup → (∀ g ∈ b0, g ∉ bs) → ∃ b', OwRow P w St ((L.map getM).flatMap f) xs b' ∧ b'.Nodup ∧ ∀ g ∈ b', g ∈ b0 ∨ g ∈ bs := by
  obtain ⟨β, k1, k2, k3, k4⟩ := row_parts ht hn
  have hlen := ht.length
  rw [List.length_map] at hlen
  have key : ∀ (L : List (Nat × α ⊕ α)) (seen : List Nat) {xs : List Value} {b0 : List Nat}, okJ l L seen = true → OwRow P w St (L.flatMap (mE f U)) xs b0 → b0.Nodup → (∀ g ∈ b0, g ∉ bs) →
      ∃ b', OwRow P w St ((L.map getM).flatMap f) xs b' ∧ b'.Nodup ∧ (∀ g ∈ b', g ∈ b0 ∨ g ∈ bs) ∧ ∀ i ∈ seen, ∀ g ∈ β i, g ∉ b' := by
    intro L
    induction L with
    | nil =>
      intro seen xs b0 _ h hnb hd
      exact ⟨[], ⟨h.1, rfl⟩, List.nodup_nil, by simp, by simp⟩
    | cons p L ih =>
      intro seen xs b0 hok h hnb hd
      rw [List.flatMap_cons] at h
      obtain ⟨xs1, xs2, b1, b2, rfl, rfl, r1, r2⟩ := h.app
      obtain ⟨n1, n2, n3⟩ := List.nodup_append.1 hnb
      cases p with
      | inr x =>
        simp only [okJ] at hok
        obtain ⟨b', q1, q2, q3, q4⟩ := ih seen hok r2 n2 (fun g hg => hd g (List.mem_append_right _ hg))
        refine ⟨b1 ++ b', ?_, ?_, ?_, ?_⟩
        · rw [List.map_cons, List.flatMap_cons]; exact OwRow.join r1 q1
        · refine List.nodup_append.2 ⟨n1, q2, fun a ha b hb e => ?_⟩
          subst e
          rcases q3 a hb with h | h
          · exact n3 a ha a h rfl
          · exact hd a (List.mem_append_left _ ha) h
        · intro g hg
          rcases List.mem_append.1 hg with hg | hg
          · exact .inl (List.mem_append_left _ hg)
          · exact (q3 g hg).imp (List.mem_append_right _) id
        · intro i hi g hg hm
          rcases List.mem_append.1 hm with hm | hm
          · exact hd g (List.mem_append_left _ hm) (k2 i g hg)
          · exact q4 i hi g hg hm
      | inl p =>
        simp only [okJ, Bool.and_eq_true, Bool.not_eq_true'] at hok
        obtain ⟨⟨g1, g2⟩, g3⟩ := hok
        obtain ⟨b', q1, q2, q3, q4⟩ := ih (p.1 :: seen) g3 r2 n2 (fun g hg => hd g (List.mem_append_right _ hg))
        have hp : l[p.1]? = some p.2 := by
          split at g1
          · rename_i x hx; rw [hx]; simpa using g1
          · cases g1
        have hpl : p.1 < l.length := by
          rcases Nat.lt_or_ge p.1 l.length with h | h
          · exact h
          · rw [List.getElem?_eq_none h] at hp; cases hp
        have hus : us[p.1]? = some (U p.1) := by
          rw [hU p.1 hpl]
          have : p.1 < us.length := by omega
          simp [this]
        have htok := k1 p.1 _ _ (by rw [List.getElem?_map, hp]; rfl) hus
        have r1' : OwRow P w St (f p.2) xs1 (β p.1) := one_join (h1 p.2) (show OwRow P w St ((f p.2).map (pinC (U p.1))) xs1 b1 from r1) htok
        refine ⟨β p.1 ++ b', ?_, ?_, ?_, ?_⟩
        · rw [List.map_cons, List.flatMap_cons]; exact OwRow.join r1' q1
        · refine List.nodup_append.2 ⟨k3 p.1, q2, fun a ha b hb e => ?_⟩
          subst e
          exact q4 p.1 (by simp) a ha hb
        · intro g hg
          rcases List.mem_append.1 hg with hg | hg
          · exact .inr (k2 p.1 g hg)
          · exact (q3 g hg).imp (List.mem_append_right _) id
        · intro i hi g hg hm
          rcases List.mem_append.1 hm with hm | hm
          · have hne : i ≠ p.1 := fun e => by
              subst e
              have : seen.contains p.1 = true := by simpa using hi
              rw [this] at g2; cases g2
            exact k4 i p.1 hne g hg hm
          · exact q4 i (by simp [hi]) g hg hm
  intro L xs b0 hok h hnb hd
  obtain ⟨b', q1, q2, q3, _⟩ := key L [] hok h hnb hd
  exact ⟨b', q1, q2, q3⟩
end
theorem zpE {α : Type} {f : α → List V} {n : Nat} (h : ∀ x, (f x).length = n) {U : Nat → Value} (p : Nat × α) : (pE f U p).length = n := by unfold pE; rw [List.length_map, h]
theorem zmE {α : Type} {f : α → List V} {n : Nat} (h : ∀ x, (f x).length = n) {U : Nat → Value} : ∀ p : Nat × α ⊕ α, (mE f U p).length = n
  | .inl p => zpE h p
  | .inr x => h x
theorem erP {α : Type} {f g : α → List V} (h : ∀ x, erL (f x) = g x) (hg : ∀ x, erL (g x) = g x) (l : List α) {u : Value} : er (.pin u l.length (erL (l.flatMap f))) = .dat l.length (l.flatMap g) := by rw [er, erL_flat h, erL_flat hg]
theorem own_inl {α : Type} {f : α → List V} {U : Nat → Value} {e : TypeId} {x : List (Nat × α)} : V.own e x.length (x.flatMap (pE f U)) = .own e (x.map (Sum.inl : Nat × α → Nat × α ⊕ α)).length ((x.map (Sum.inl : Nat × α → Nat × α ⊕ α)).flatMap (mE f U)) := by
  rw [List.length_map, List.flatMap_map]; rfl
theorem map_dgp {α : Type} {f : α → List V} {U : Nat → Value} (l : List (Nat × α)) : (l.flatMap (pE f U)).map dg1 = l.flatMap (pE f U) := by
  rw [List.map_flatMap]
  congr 1
  funext p
  unfold pE
  rw [List.map_map]
  apply List.map_congr_left
  intro c _
  cases c <;> rfl
section
variable {P : Program} {α : Type} {f : α → List V}
theorem enumP_len : ∀ (k : Nat) (l : List α), (enumP k l).length = l.length
  | _, [] => rfl
  | k, x :: l => by rw [enumP, List.length_cons, List.length_cons, enumP_len (k + 1) l]
def SplitP (P : Program) (f : α → List V) (c : V) (l : List α) (k : Nat) (c' : (Nat → Value) → V) : Prop :=
  ∀ w St t v bs, SlotR P w St t c v bs → bs.Nodup → ∃ us b1 b2, us.length = l.length ∧ OwRow P w St (l.map fun x => tokC (f x)) us b2 ∧ (b1 ++ b2).Nodup ∧ (∀ g ∈ b1 ++ b2, g ∈ bs) ∧ ∀ U : Nat → Value, (∀ i, i < l.length → U (k + i) = us.getD i undef) → SlotR P w St t (c' U) v b1
theorem ow_own_split (h1 : ∀ x, oneOwn (f x) = true) {e : TypeId} {l : List α} {k : Nat} {w : World} {St : Nat → Nat → Prop} {v : Value} {bs : List Nat} (h : Ow P w St (.own e l.length (l.flatMap f)) v bs) (hn : bs.Nodup) :
    ∃ us b1 b2, us.length = l.length ∧ OwRow P w St (l.map fun x => tokC (f x)) us b2 ∧ bs = b1 ++ b2 ∧ ∀ U : Nat → Value, (∀ i, i < l.length → U (k + i) = us.getD i undef) → Ow P w St (.own e (enumP k l).length ((enumP k l).flatMap (pE f U))) v b1 := by
  obtain ⟨hl, xs, bs', hx, hr, hb, hst, h0⟩ := h
  obtain ⟨us, hul, ht, hp⟩ := ow_split h1 l k hr
  refine ⟨us, v.ownBlock.toList, bs', hul, ht, hb, fun U hU => ?_⟩
  rw [enumP_len]
  refine ⟨hl, xs, [], hx, hp U hU, by simp, hst, fun hz => ?_⟩
  have : l = [] := List.eq_nil_of_length_eq_zero hz
  subst this; rfl
theorem split_own (h1 : ∀ x, oneOwn (f x) = true) {e : TypeId} {l : List α} {k : Nat} : SplitP P f (.own e l.length (l.flatMap f)) l k (fun U => .own e (enumP k l).length ((enumP k l).flatMap (pE f U))) := by
  intro w St t v bs h hn
  obtain ⟨us, b1, b2, q1, q2, q3, q4⟩ := ow_own_split (k := k) h1 (show Ow P w St _ v bs from h) hn
  exact ⟨us, b1, b2, q1, q2, by rw [← q3]; exact hn, fun g hg => by rw [q3]; exact hg, fun U hU => q4 U hU⟩
theorem split_box (h1 : ∀ x, oneOwn (f x) = true) {e : TypeId} {l : List α} {k : Nat} {A C : List V} : SplitP P f (.box (A ++ .own e l.length (l.flatMap f) :: C)) l k (fun U => .box (A ++ .own e (enumP k l).length ((enumP k l).flatMap (pE f U)) :: C)) := by
  rintro w St t v bs ⟨g, T, bs', arr, e1, e2, hr, rfl, hst⟩ hn
  obtain ⟨us1, us2, p1, p2, eu, eb, r1, r2⟩ := hr.app
  obtain ⟨u, us3, p3, p4, eu2, eb2, hc, r3, r4⟩ := r2
  subst eb eb2
  have hn1 := List.nodup_cons.1 hn
  have hn2 := List.nodup_append.1 hn1.2
  have hn3 := List.nodup_append.1 hn2.2.1
  obtain ⟨us, b1, b2, q1, q2, q3, q4⟩ := ow_own_split (k := k) h1 r3 hn3.1
  subst q3
  have hn4 := List.nodup_append.1 hn3.1
  refine ⟨us, g :: (p1 ++ (b1 ++ p4)), b2, q1, q2, ?_, ?_, fun U hU => ⟨g, T, p1 ++ (b1 ++ p4), arr, e1, e2, ?_, rfl, hst⟩⟩
  · rw [List.cons_append, List.nodup_cons]
    refine ⟨fun hm => hn1.1 ?_, ?_⟩
    · simp only [List.mem_append] at hm ⊢
      rcases hm with (h | h | h) | h
      · exact .inl h
      · exact .inr (.inl (.inl h))
      · exact .inr (.inr h)
      · exact .inr (.inl (.inr h))
    · refine List.nodup_append.2 ⟨List.nodup_append.2 ⟨hn2.1, List.nodup_append.2 ⟨hn4.1, hn3.2.1, fun a ha b hb => hn3.2.2 a (List.mem_append_left _ ha) b hb⟩, fun a ha b hb => hn2.2.2 a ha b (by simp only [List.mem_append] at hb ⊢; rcases hb with h | h; exact .inl (.inl h); exact .inr h)⟩, hn4.2.1, fun a ha b hb e => ?_⟩
      subst e
      simp only [List.mem_append] at ha
      rcases ha with h | h | h
      · exact hn2.2.2 a h a (by simp [hb]) rfl
      · exact hn4.2.2 a h a hb rfl
      · exact hn3.2.2 a (List.mem_append_right _ hb) a h rfl
  · intro x hx
    simp only [List.mem_append, List.mem_cons] at hx ⊢
    rcases hx with (h | h | h | h) | h
    · exact .inl h
    · exact .inr (.inl h)
    · exact .inr (.inr (.inl (.inl h)))
    · exact .inr (.inr (.inr h))
    · exact .inr (.inr (.inl (.inr h)))
  · rw [eu, eu2]
    exact OwRow.join r1 ⟨u, us3, b1, p4, rfl, rfl, rfl, q4 U hU, r4⟩
def JoinP (P : Program) [BEq α] (f : α → List V) (U : Nat → Value) (c : V) (L : List (Nat × α ⊕ α)) (c' : V) : Prop :=
  ∀ w St t v b1 (l : List α) us bs, SlotR P w St t c v b1 → OwRow P w St (l.map fun x => tokC (f x)) us bs → bs.Nodup → (∀ i, i < l.length → U i = us.getD i undef) → okJ l L [] = true → b1.Nodup → (∀ g ∈ b1, g ∉ bs) → ∃ b', SlotR P w St t c' v b' ∧ b'.Nodup ∧ ∀ g ∈ b', g ∈ b1 ∨ g ∈ bs
theorem ow_own_join [BEq α] [LawfulBEq α] (h1 : ∀ x, oneOwn (f x) = true) {e : TypeId} {L : List (Nat × α ⊕ α)} {U : Nat → Value} {w : World} {St : Nat → Nat → Prop} {v : Value} {b1 : List Nat} {l : List α} {us : List Value} {bs : List Nat} (h : Ow P w St (.own e L.length (L.flatMap (mE f U))) v b1) (ht : OwRow P w St (l.map fun x => tokC (f x)) us bs) (hn : bs.Nodup)
    (hU : ∀ i, i < l.length → U i = us.getD i undef) (hok : okJ l L [] = true) (hb1 : b1.Nodup) (hd : ∀ g ∈ b1, g ∉ bs) : ∃ b', Ow P w St (.own e (L.map getM).length ((L.map getM).flatMap f)) v b' ∧ b'.Nodup ∧ ∀ g ∈ b', g ∈ b1 ∨ g ∈ bs := by
  obtain ⟨hl, xs, bs', hx, hr, rfl, hst, h0⟩ := h
  obtain ⟨n1, n2, n3⟩ := List.nodup_append.1 hb1
  obtain ⟨b', q1, q2, q3⟩ := ow_join h1 ht hn hU L hok hr n2 (fun g hg => hd g (List.mem_append_right _ hg))
  refine ⟨v.ownBlock.toList ++ b', ⟨by rw [List.length_map]; exact hl, xs, b', by rw [List.length_map]; exact hx, q1, rfl, by rw [List.length_map]; exact hst, fun hz => ?_⟩, ?_, ?_⟩
  · rw [List.length_map] at hz
    have : L = [] := List.eq_nil_of_length_eq_zero hz
    subst this; rfl
  · refine List.nodup_append.2 ⟨n1, q2, fun a ha b hb e => ?_⟩
    subst e
    rcases q3 a hb with h | h
    · exact n3 a ha a h rfl
    · exact hd a (List.mem_append_left _ ha) h
  · intro g hg
    rcases List.mem_append.1 hg with hg | hg
    · exact .inl (List.mem_append_left _ hg)
    · exact (q3 g hg).imp (List.mem_append_right _) id
theorem join_own [BEq α] [LawfulBEq α] (h1 : ∀ x, oneOwn (f x) = true) {e : TypeId} {L : List (Nat × α ⊕ α)} {U : Nat → Value} : JoinP P f U (.own e L.length (L.flatMap (mE f U))) L (.own e (L.map getM).length ((L.map getM).flatMap f)) := by
  intro w St t v b1 l us bs h ht hn hU hok hb1 hd
  obtain ⟨b', q1, q2, q3⟩ := ow_own_join h1 (show Ow P w St _ v b1 from h) ht hn hU hok hb1 hd
  exact ⟨b', q1, q2, q3⟩
theorem join_pin [BEq α] [LawfulBEq α] (h1 : ∀ x, oneOwn (f x) = true) {U : Nat → Value} {p : Nat × α} {e : TypeId} {n : Nat} {cs : List V} (he : f p.2 = [.own e n cs]) : JoinP P f U (.pin (U p.1) n (erL cs)) [.inl p] (.own e n cs) := by
  intro w St t v b1 l us bs h ht hn hU hok hb1 hd
  have h2 : Ow P w St (.pin (U p.1) n (erL cs)) v b1 := h
  have hr : OwRow P w St (([.inl p] : List (Nat × α ⊕ α)).flatMap (mE f U)) [v] b1 := by
    rw [List.flatMap_cons, List.flatMap_nil, List.append_nil]
    show OwRow P w St ((f p.2).map (pinC (U p.1))) [v] b1
    rw [he]
    exact ⟨v, [], b1, [], rfl, (List.append_nil _).symm, rfl, h2, rfl, rfl⟩
  obtain ⟨b', q1, q2, q3⟩ := ow_join h1 ht hn hU _ hok hr hb1 hd
  rw [List.map_cons, List.map_nil, List.flatMap_cons, List.flatMap_nil, List.append_nil] at q1
  rw [show getM (Sum.inl p : Nat × α ⊕ α) = p.2 from rfl, he] at q1
  obtain ⟨u, us', c1, c2, e1, e2, _, q4, q5⟩ := q1
  obtain ⟨rfl, rfl⟩ := List.cons.inj e1
  have : c2 = [] := q5.2
  subst this
  rw [List.append_nil] at e2
  subst e2
  exact ⟨b', q4, q2, q3⟩
theorem join_box [BEq α] [LawfulBEq α] (h1 : ∀ x, oneOwn (f x) = true) {e : TypeId} {L : List (Nat × α ⊕ α)} {U : Nat → Value} {A C : List V} : JoinP P f U (.box (A ++ .own e L.length (L.flatMap (mE f U)) :: C)) L (.box (A ++ .own e (L.map getM).length ((L.map getM).flatMap f) :: C)) := by
  rintro w St t v b1 l us bs ⟨g, T, bs', arr, e1, e2, hr, rfl, hst⟩ ht hn hU hok hb1 hd
  obtain ⟨us1, us2, p1, p2, eu, eb, r1, r2⟩ := hr.app
  obtain ⟨u, us3, p3, p4, eu2, eb2, hc, r3, r4⟩ := r2
  subst eb eb2
  have hn1 := List.nodup_cons.1 hb1
  have hn2 := List.nodup_append.1 hn1.2
  have hn3 := List.nodup_append.1 hn2.2.1
  obtain ⟨b', q1, q2, q3⟩ := ow_own_join h1 r3 ht hn hU hok hn3.1 (fun x hx => hd x (by simp [hx]))
  have hgb : g ∉ bs := hd g (by simp)
  refine ⟨g :: (p1 ++ (b' ++ p4)), ⟨g, T, p1 ++ (b' ++ p4), arr, e1, e2, by rw [eu, eu2]; exact OwRow.join r1 ⟨u, us3, b', p4, rfl, rfl, rfl, q1, r4⟩, rfl, hst⟩, ?_, ?_⟩
  · rw [List.nodup_cons]
    refine ⟨fun hm => ?_, List.nodup_append.2 ⟨hn2.1, List.nodup_append.2 ⟨q2, hn3.2.1, fun a ha b hb e => ?_⟩, fun a ha b hb e => ?_⟩⟩
    · simp only [List.mem_append] at hm
      rcases hm with h | h | h
      · exact hn1.1 (by simp [h])
      · rcases q3 g h with h | h
        · exact hn1.1 (by simp [h])
        · exact hgb h
      · exact hn1.1 (by simp [h])
    · subst e
      rcases q3 a ha with h | h
      · exact hn3.2.2 a h a hb rfl
      · exact hd a (by simp [hb]) h
    · subst e
      rcases List.mem_append.1 hb with hb | hb
      · rcases q3 a hb with h | h
        · exact hn2.2.2 a ha a (by simp [h]) rfl
        · exact hd a (by simp [ha]) h
      · exact hn2.2.2 a ha a (by simp [hb]) rfl
  · intro x hx
    simp only [List.mem_cons, List.mem_append] at hx ⊢
    rcases hx with h | h | h | h
    · exact .inl (.inl h)
    · exact .inl (.inr (.inl h))
    · rcases q3 x h with h | h
      · exact .inl (.inr (.inr (.inl h)))
      · exact .inr h
    · exact .inl (.inr (.inr (.inr h)))
theorem join_agg [BEq α] [LawfulBEq α] (h1 : ∀ x, oneOwn (f x) = true) {e : TypeId} {L : List (Nat × α ⊕ α)} {U : Nat → Value} {A C : List V} : JoinP P f U (.agg (A ++ .own e L.length (L.flatMap (mE f U)) :: C)) L (.agg (A ++ .own e (L.map getM).length ((L.map getM).flatMap f) :: C)) := by
  rintro w St t v b1 l us bs ⟨vs, e1, hr⟩ ht hn hU hok hb1 hd
  obtain ⟨us1, us2, p1, p2, eu, eb, r1, r2⟩ := hr.app
  obtain ⟨u, us3, p3, p4, eu2, eb2, hc, r3, r4⟩ := r2
  subst eb eb2
  have hn2 := List.nodup_append.1 hb1
  have hn3 := List.nodup_append.1 hn2.2.1
  obtain ⟨b', q1, q2, q3⟩ := ow_own_join h1 r3 ht hn hU hok hn3.1 (fun x hx => hd x (by simp [hx]))
  refine ⟨p1 ++ (b' ++ p4), ⟨vs, e1, by rw [eu, eu2]; exact OwRow.join r1 ⟨u, us3, b', p4, rfl, rfl, rfl, q1, r4⟩⟩, ?_, ?_⟩
  · refine List.nodup_append.2 ⟨hn2.1, List.nodup_append.2 ⟨q2, hn3.2.1, fun a ha b hb e => ?_⟩, fun a ha b hb e => ?_⟩
    · subst e
      rcases q3 a ha with h | h
      · exact hn3.2.2 a h a hb rfl
      · exact hd a (by simp [hb]) h
    · subst e
      rcases List.mem_append.1 hb with hb | hb
      · rcases q3 a hb with h | h
        · exact hn2.2.2 a ha a (by simp [h]) rfl
        · exact hd a (by simp [ha]) h
      · exact hn2.2.2 a ha a (by simp [hb]) rfl
  · intro x hx
    simp only [List.mem_append] at hx ⊢
    rcases hx with h | h | h
    · exact .inl (.inl h)
    · rcases q3 x h with h | h
      · exact .inl (.inr (.inl h))
      · exact .inr h
    · exact .inl (.inr (.inr h))
end
section
variable {P : Program} {nt : Nat} {base : Bs} {bx : List Nat} {St St0 : Nat → Nat → Prop} {B : Nat → List Nat} {hand : List Nat} {σ : PS} {a : Act} {w w0 : World}
theorem hsim_move (h : HSim P nt bx base St B [] σ a w) {s q : Nat} (hsq : s ≠ q) (hq : bxOf (σ q) = none) {c cq : V} {b1 b2 : List Nat} (hc : SlotR P w St (tm a) c (tm a s) b1) (hcq : SlotR P w St (tm a) cq (tm a q) b2) (hn : (b1 ++ b2).Nodup) (hsub : ∀ g ∈ b1 ++ b2, g ∈ B s ∨ g ∈ B q)
    (hb : (bxOf c).isSome = (bxOf (σ s)).isSome) (hrf : refOf c = none) (hbq : bxOf cq = none) (hrq : refOf cq = none) : HSim P nt bx base St (upd (upd B s b1) q b2) [] (upd (upd σ s c) q cq) a w := by
  have hsome : ∀ cs, bxOf c = some cs → ∃ ds, bxOf (σ s) = some ds := fun cs e => by
    rw [e] at hb
    cases hx : bxOf (σ s) with
    | none => rw [hx] at hb; cases hb
    | some ds => exact ⟨ds, rfl⟩
  have hsome' : ∀ cs, bxOf (σ s) = some cs → ∃ ds, bxOf c = some ds := fun cs e => by
    rw [e] at hb
    cases hx : bxOf c with
    | none => rw [hx] at hb; cases hb
    | some ds => exact ⟨ds, rfl⟩
  obtain ⟨n1, n2, n3⟩ := List.nodup_append.1 hn
  have hB : ∀ r, r ≠ s → r ≠ q → upd (upd B s b1) q b2 r = B r := fun r h1 h2 => by rw [upd_ne _ _ h2, upd_ne _ _ h1]
  have hBs : upd (upd B s b1) q b2 s = b1 := by rw [upd_ne _ _ hsq, upd_same]
  have hBq : upd (upd B s b1) q b2 q = b2 := upd_same _ _ _
  have hS : ∀ r, r ≠ s → r ≠ q → upd (upd σ s c) q cq r = σ r := fun r h1 h2 => by rw [upd_ne _ _ h2, upd_ne _ _ h1]
  have hSs : upd (upd σ s c) q cq s = c := by rw [upd_ne _ _ hsq, upd_same]
  have hSq : upd (upd σ s c) q cq q = cq := upd_same _ _ _
  have hin : ∀ r, (∀ g ∈ upd (upd B s b1) q b2 r, g ∈ B r ∨ ((r = s ∨ r = q) ∧ (g ∈ B s ∨ g ∈ B q))) := fun r g hg => by
    by_cases e1 : r = s
    · subst e1; rw [hBs] at hg; exact .inr ⟨.inl rfl, hsub g (List.mem_append_left _ hg)⟩
    · by_cases e2 : r = q
      · subst e2; rw [hBq] at hg; exact .inr ⟨.inr rfl, hsub g (List.mem_append_right _ hg)⟩
      · rw [hB r e1 e2] at hg; exact .inl hg
  exact
  { h with
    slot := fun r => by
      by_cases e1 : r = s
      · subst e1; rw [hSs, hBs]; exact hc
      · by_cases e2 : r = q
        · subst e2; rw [hSq, hBq]; exact hcq
        · rw [hS r e1 e2, hB r e1 e2]; exact h.slot r
    boxes := fun r cs e => by
      by_cases e1 : r = s
      · subst e1; rw [hSs] at e; obtain ⟨ds, hd⟩ := hsome cs e; exact h.boxes r ds hd
      · by_cases e2 : r = q
        · subst e2; rw [hSq, hbq] at e; cases e
        · rw [hS r e1 e2] at e; exact h.boxes r cs e
    crefs := fun r b e => by
      have hr : refOf (σ r) = some b := by
        by_cases e1 : r = s
        · subst e1; rw [hSs, hrf] at e; cases e
        · by_cases e2 : r = q
          · subst e2; rw [hSq, hrq] at e; cases e
          · rw [hS r e1 e2] at e; exact e
      obtain ⟨cs, hcs⟩ := h.crefs r b hr
      by_cases e1 : b = s
      · subst e1; rw [hSs]; exact hsome' cs hcs
      · by_cases e2 : b = q
        · subst e2; rw [hq] at hcs; cases hcs
        · rw [hS b e1 e2]; exact ⟨cs, hcs⟩
    nodup := fun r => by
      by_cases e1 : r = s
      · subst e1; rw [hBs]; exact n1
      · by_cases e2 : r = q
        · subst e2; rw [hBq]; exact n2
        · rw [hB r e1 e2]; exact h.nodup r
    apart := fun r t hrt g hg hg' => by
      by_cases e1 : (r = s ∨ r = q)
      · by_cases e2 : (t = s ∨ t = q)
        · rcases e1 with rfl | rfl <;> rcases e2 with rfl | rfl
          · exact hrt rfl
          · rw [hBs] at hg; rw [hBq] at hg'; exact n3 g hg g hg' rfl
          · rw [hBq] at hg; rw [hBs] at hg'; exact n3 g hg' g hg rfl
          · exact hrt rfl
        · have ht1 : t ≠ s := fun e => e2 (.inl e)
          have ht2 : t ≠ q := fun e => e2 (.inr e)
          rw [hB t ht1 ht2] at hg'
          rcases hin r g hg with hh | ⟨_, hh⟩
          · exact h.apart r t hrt g hh hg'
          · rcases hh with hh | hh
            · exact h.apart s t (Ne.symm ht1) g hh hg'
            · exact h.apart q t (Ne.symm ht2) g hh hg'
      · have hr1 : r ≠ s := fun e => e1 (.inl e)
        have hr2 : r ≠ q := fun e => e1 (.inr e)
        rw [hB r hr1 hr2] at hg
        rcases hin t g hg' with hh | ⟨_, hh⟩
        · exact h.apart r t hrt g hg hh
        · rcases hh with hh | hh
          · exact h.apart r s hr1 g hg hh
          · exact h.apart r q hr2 g hg hh
    hapart := fun r g hg => by simp
    range := fun r g hg => by
      rcases hin r g hg with hh | ⟨_, hh | hh⟩
      · exact h.range r g hh
      · exact h.range s g hh
      · exact h.range q g hh }
variable {Q : Exit → PS → Prop} {α : Type} {f : α → List V}
theorem ls_split1 {x : LC} {s q : Nat} {l : List α} {c : V} {c' : (Nat → Value) → V} (hs : σ s = c) (hq : σ q = .undef) (hsq : s ≠ q) (S : SplitP P f c l 0 c') (hb : ∀ U, (bxOf (c' U)).isSome = (bxOf c).isSome) (hrf : ∀ U, refOf (c' U) = none)
    (h : ∀ (U : Nat → Value) (us : List Value), us.length = l.length → (∀ i, i < l.length → U i = us.getD i undef) → LS P nt bx x (upd (upd σ s (c' U)) q (.gh us (l.map fun x => tokC (f x)))) Q) : LS P nt bx x σ Q := by
  intro cc hc hok hL base St0 w0 a w hr
  obtain ⟨St, B, hS, r1, r2, r3⟩ := hr
  have h1 := hS.slot s
  rw [hs] at h1
  obtain ⟨us, b1, b2, q1, q2, q3, q4, q5⟩ := S w St (tm a) (tm a s) (B s) h1 (hS.nodup s)
  have hU : ∀ i, i < l.length → (fun i => us.getD i undef) (0 + i) = us.getD i undef := fun i _ => by simp
  refine h (fun i => us.getD i undef) us q1 (fun i _ => rfl) cc hc hok hL base St0 w0 a w ⟨St, _, hsim_move hS hsq (by rw [hq]; rfl) (q5 (fun i => us.getD i undef) hU) (show SlotR P w St (tm a) (.gh us _) _ b2 from q2) q3 (fun g hg => .inl (q4 g hg)) (by rw [hs]; exact hb _) (hrf _) rfl rfl, r1, r2, r3⟩
theorem ls_split2 {x : LC} {s1 s2 g1 g2 : Nat} {l1 l2 : List α} {c1 c2 : V} {c1' c2' : (Nat → Value) → V} (hs1 : σ s1 = c1) (hs2 : σ s2 = c2) (hq1 : σ g1 = .undef) (hq2 : σ g2 = .undef) (hne : s1 ≠ s2 ∧ s1 ≠ g1 ∧ s1 ≠ g2 ∧ s2 ≠ g1 ∧ s2 ≠ g2 ∧ g1 ≠ g2) (S1 : SplitP P f c1 l1 0 c1') (S2 : SplitP P f c2 l2 l1.length c2')
    (hb1 : ∀ U, (bxOf (c1' U)).isSome = (bxOf c1).isSome) (hrf1 : ∀ U, refOf (c1' U) = none) (hb2 : ∀ U, (bxOf (c2' U)).isSome = (bxOf c2).isSome) (hrf2 : ∀ U, refOf (c2' U) = none)
    (h : ∀ (U : Nat → Value) (us1 us2 : List Value), us1.length = l1.length → us2.length = l2.length → (∀ i, i < (l1 ++ l2).length → U i = (us1 ++ us2).getD i undef) → LS P nt bx x (upd (upd (upd (upd σ s1 (c1' U)) g1 (.gh us1 (l1.map fun x => tokC (f x)))) s2 (c2' U)) g2 (.gh us2 (l2.map fun x => tokC (f x)))) Q) : LS P nt bx x σ Q := by
  obtain ⟨n1, n2, n3, n4, n5, n6⟩ := hne
  intro cc hc hok hL base St0 w0 a w hr
  obtain ⟨St, B, hS, r1, r2, r3⟩ := hr
  have h1 := hS.slot s1
  rw [hs1] at h1
  have h2 := hS.slot s2
  rw [hs2] at h2
  obtain ⟨us1, b1, b2, q1, q2, q3, q4, q5⟩ := S1 w St (tm a) (tm a s1) (B s1) h1 (hS.nodup s1)
  obtain ⟨us2, b3, b4, p1, p2, p3, p4, p5⟩ := S2 w St (tm a) (tm a s2) (B s2) h2 (hS.nodup s2)
  have hU1 : ∀ i, i < l1.length → (fun i => (us1 ++ us2).getD i undef) (0 + i) = us1.getD i undef := fun i hi => by
    have : i < us1.length := by omega
    simp [List.getElem?_append_left this]
  have hU2 : ∀ i, i < l2.length → (fun i => (us1 ++ us2).getD i undef) (l1.length + i) = us2.getD i undef := fun i hi => by
    simp only [List.getD_eq_getElem?_getD]
    rw [List.getElem?_append_right (by omega), q1, Nat.add_sub_cancel_left]
  have m1 := hsim_move hS n2 (by rw [hq1]; rfl) (q5 (fun i => (us1 ++ us2).getD i undef) hU1) (show SlotR P w St (tm a) (.gh us1 (l1.map fun x => tokC (f x))) _ b2 from q2) q3 (fun g hg => .inl (q4 g hg)) (by rw [hs1]; exact hb1 _) (hrf1 _) rfl rfl
  have e1 : upd (upd σ s1 (c1' fun i => (us1 ++ us2).getD i undef)) g1 (.gh us1 (l1.map fun x => tokC (f x))) s2 = c2 := by rw [upd_ne _ _ n4, upd_ne _ _ (Ne.symm n1), hs2]
  have e2 : upd (upd σ s1 (c1' fun i => (us1 ++ us2).getD i undef)) g1 (.gh us1 (l1.map fun x => tokC (f x))) g2 = .undef := by rw [upd_ne _ _ (Ne.symm n6), upd_ne _ _ (Ne.symm n3), hq2]
  have e3 : upd (upd B s1 b1) g1 b2 s2 = B s2 := by rw [upd_ne _ _ n4, upd_ne _ _ (Ne.symm n1)]
  have m2 := hsim_move m1 n5 (by rw [e2]; rfl) (p5 (fun i => (us1 ++ us2).getD i undef) hU2) (show SlotR P w St (tm a) (.gh us2 (l2.map fun x => tokC (f x))) _ b4 from p2) p3 (fun g hg => .inl (by rw [e3]; exact p4 g hg)) (by rw [e1]; exact hb2 _) (hrf2 _) rfl rfl
  exact h (fun i => (us1 ++ us2).getD i undef) us1 us2 q1 p1 (fun i _ => rfl) cc hc hok hL base St0 w0 a w ⟨St, _, m2, r1, r2, r3⟩
theorem ls_merge {x : LC} {g1 g2 : Nat} {us1 us2 : List Value} {cs1 cs2 : List V} (h1 : σ g1 = .gh us1 cs1) (h2 : σ g2 = .gh us2 cs2) (hne : g1 ≠ g2) (h : LS P nt bx x (upd (upd σ g1 (.gh (us1 ++ us2) (cs1 ++ cs2))) g2 .undef) Q) : LS P nt bx x σ Q := by
  intro cc hc hok hL base St0 w0 a w hr
  obtain ⟨St, B, hS, r1, r2, r3⟩ := hr
  have k1 := hS.slot g1
  rw [h1] at k1
  have k2 := hS.slot g2
  rw [h2] at k2
  refine h cc hc hok hL base St0 w0 a w ⟨St, _, hsim_move hS hne (by rw [h2]; rfl) (show SlotR P w St (tm a) (.gh (us1 ++ us2) (cs1 ++ cs2)) _ (B g1 ++ B g2) from OwRow.join k1 k2) (show SlotR P w St (tm a) .undef _ [] from rfl) ?_ (fun g hg => ?_) (by rw [h1]; rfl) rfl rfl rfl, r1, r2, r3⟩
  · rw [List.append_nil]
    exact List.nodup_append.2 ⟨hS.nodup g1, hS.nodup g2, fun a ha b hb e => by subst e; exact hS.apart g1 g2 hne a ha hb⟩
  · rw [List.append_nil] at hg
    exact List.mem_append.1 hg
theorem ls_join1 [BEq α] {x : LC} {s q : Nat} {l : List α} {us : List Value} {U : Nat → Value} {L : List (Nat × α ⊕ α)} {c c' : V} {cs : List V} (hs : σ s = c) (hq : σ q = .gh us cs) (hcs : cs = l.map fun x => tokC (f x)) (hsq : s ≠ q) (J : JoinP P f U c L c') (hU : ∀ i, i < l.length → U i = us.getD i undef) (hok : okJ l L [] = true)
    (hb : (bxOf c').isSome = (bxOf c).isSome) (hrf : refOf c' = none) (h : LS P nt bx x (upd (upd σ s c') q .undef) Q) : LS P nt bx x σ Q := by
  intro cc hc hok' hL base St0 w0 a w hr
  obtain ⟨St, B, hS, r1, r2, r3⟩ := hr
  have k1 := hS.slot s
  rw [hs] at k1
  have k2 := hS.slot q
  rw [hq, hcs] at k2
  obtain ⟨b', q1, q2, q3⟩ := J w St (tm a) (tm a s) (B s) l us (B q) k1 k2 (hS.nodup q) hU hok (hS.nodup s) (fun g hg => hS.apart s q hsq g hg)
  exact h cc hc hok' hL base St0 w0 a w ⟨St, _, hsim_move hS hsq (by rw [hq]; rfl) q1 (show SlotR P w St (tm a) .undef _ [] from rfl) (by rw [List.append_nil]; exact q2) (fun g hg => by rw [List.append_nil] at hg; exact q3 g hg) (by rw [hs]; exact hb) hrf rfl rfl, r1, r2, r3⟩
end
end Go.Proofs.YtkclaipnejgloaaDoor

namespace Go.Proofs.YtkclaipnejgloaaDoor
open Go.RowKit
set_option linter.unusedVariables false
def Gh (P : Program) (nt : Nat) (bx : List Nat) (σ : PS) (K : PS → Prop) : Prop := ∀ base St0 w0 a w, Rel P nt bx base St0 w0 σ a w → ∃ σ', K σ' ∧ Rel P nt bx base St0 w0 σ' a w
def ghQ (P : Program) (nt : Nat) (bx : List Nat) (Q : Exit → PS → Prop) : Exit → PS → Prop
  | .normal, σ => Gh P nt bx σ (Q .normal)
  | e, σ => Q e σ
section
variable {P : Program} {nt : Nat} {bx : List Nat} {σ : PS} {K : PS → Prop} {Q : Exit → PS → Prop} {x : LC}
theorem gh_k (h : K σ) : Gh P nt bx σ K := fun _ _ _ _ _ hr => ⟨σ, h, hr⟩
theorem ls_gh (h : LS P nt bx x σ (ghQ P nt bx Q)) : LS P nt bx x σ Q := by
  intro c hc hok hL base St0 w0 a w hr
  refine wp_mono (h c hc hok hL base St0 w0 a w hr) ?_
  rintro e a' w' ⟨σ', h1, h2⟩
  cases e with
  | normal => exact h1 base St0 w0 a' w' h2
  | _ => exact ⟨σ', h1, h2⟩
theorem ls_hg (h : Gh P nt bx σ (fun σ' => LS P nt bx x σ' Q)) : LS P nt bx x σ Q := by
  intro c hc hok hL base St0 w0 a w hr
  obtain ⟨σ', h1, h2⟩ := h base St0 w0 a w hr
  exact h1 c hc hok hL base St0 w0 a w h2
def LiftP (P : Program) (c : V) (e : TypeId) (n : Nat) (cs : List V) (c' : Value → V) : Prop :=
  ∀ w St (t : Nat → Value) v bs, SlotR P w St t c v bs → bs.Nodup → ∃ u b1 b2, Ow P w St (.own e n cs) u b2 ∧ (b1 ++ b2).Nodup ∧ (∀ g ∈ b1 ++ b2, g ∈ bs) ∧ SlotR P w St t (c' u) v b1
theorem own_cell {w : World} {St : Nat → Nat → Prop} {e : TypeId} {n : Nat} {cs : List V} {u : Value} {b : List Nat} (h : Ow P w St (.own e n cs) u b) : Ow P w St (.tok u) u [] := ⟨rfl, rfl, (Ow.rd (.own e n cs) h rfl).oneCell⟩
theorem own_named {w : World} {St : Nat → Nat → Prop} {e : TypeId} {n : Nat} {cs : List V} {u : Value} {b : List Nat} (h : Ow P w St (.own e n cs) u b) (hn : 0 < n) : ∃ g m, u = .slice (some ⟨g, 0, none⟩) n m := by
  obtain ⟨_, xs, bs', hrow, _⟩ := h
  rcases hrow.2 with ⟨_, h0⟩ | ⟨g, cap, cur, eg, _⟩
  · omega
  · exact ⟨g, cap, eg⟩
theorem lift_own {e : TypeId} {n : Nat} {cs : List V} : LiftP P (.own e n cs) e n cs .tok := fun w St t v bs h hn => ⟨v, [], bs, h, by simpa using hn, fun g hg => by simpa using hg, (own_cell (show Ow P w St (.own e n cs) v bs from h)).slot⟩
theorem lift_box {e : TypeId} {n : Nat} {cs A C : List V} : LiftP P (.box (A ++ .own e n cs :: C)) e n cs (fun u => .box (A ++ .tok u :: C)) := by
  rintro w St t v bs ⟨g, T, bs', arr, e1, e2, hr, rfl, hst⟩ hn
  obtain ⟨us1, us2, p1, p2, eu, eb, r1, r2⟩ := hr.app
  obtain ⟨u, us3, p3, p4, eu2, eb2, hc, r3, r4⟩ := r2
  subst eb eb2
  have hn1 := List.nodup_cons.1 hn
  have hn2 := List.nodup_append.1 hn1.2
  have hn3 := List.nodup_append.1 hn2.2.1
  refine ⟨u, g :: (p1 ++ p4), p3, r3, ?_, ?_, g, T, p1 ++ p4, arr, e1, e2, ?_, rfl, hst⟩
  · rw [List.cons_append, List.nodup_cons]
    refine ⟨fun hm => hn1.1 ?_, List.nodup_append.2 ⟨List.nodup_append.2 ⟨hn2.1, hn3.2.1, fun a ha b hb => hn2.2.2 a ha b (List.mem_append_right _ hb)⟩, hn3.1, fun a ha b hb e => ?_⟩⟩
    · simp only [List.mem_append] at hm ⊢
      rcases hm with (h | h) | h
      · exact .inl h
      · exact .inr (.inr h)
      · exact .inr (.inl h)
    · rcases List.mem_append.1 ha with ha | ha
      · exact hn2.2.2 a ha b (List.mem_append_left _ hb) e
      · exact hn3.2.2 b hb a ha e.symm
  · intro k hk
    simp only [List.cons_append, List.mem_cons, List.mem_append] at hk ⊢
    rcases hk with h | (h | h) | h
    · exact .inl h
    · exact .inr (.inl h)
    · exact .inr (.inr (.inr h))
    · exact .inr (.inr (.inl h))
  · rw [eu, eu2]
    have := OwRow.join r1 (show OwRow P w St (.tok u :: C) (u :: us3) p4 from ⟨u, us3, [], p4, rfl, by simp, rfl, own_cell r3, r4⟩)
    exact this
theorem gh_lift {s q : Nat} {c : V} {e : TypeId} {n : Nat} {cs : List V} {c' : Value → V} (hs : σ s = c) (hq : σ q = .undef) (hsq : s ≠ q) (L : LiftP P c e n cs c') (hn : 0 < n) (hb : ∀ u, (bxOf (c' u)).isSome = (bxOf c).isSome) (hrf : ∀ u, refOf (c' u) = none)
    (h : ∀ g m, Gh P nt bx (upd (upd σ s (c' (.slice (some ⟨g, 0, none⟩) n m))) q (.gh [.slice (some ⟨g, 0, none⟩) n m] [.own e n cs])) K) : Gh P nt bx σ K := by
  rintro base St0 w0 a w ⟨St, B, hS, r1, r2, r3⟩
  have h1 := hS.slot s
  rw [hs] at h1
  obtain ⟨u, b1, b2, q1, q2, q3, q4⟩ := L w St (tm a) (tm a s) (B s) h1 (hS.nodup s)
  obtain ⟨g, m, rfl⟩ := own_named q1 hn
  exact h g m base St0 w0 a w ⟨St, _, hsim_move hS hsq (by rw [hq]; rfl) q4 (show SlotR P w St (tm a) (.gh [_] [_]) _ b2 from ⟨_, [], b2, [], rfl, by simp, rfl, q1, rfl, rfl⟩) q2 (fun g hg => .inl (q3 g hg)) (by rw [hs]; exact hb _) (hrf _) rfl rfl, r1, r2, r3⟩
theorem gh_lift0 {s q : Nat} {c : V} {e : TypeId} {n : Nat} {cs : List V} {c' : Value → V} (hs : σ s = c) (hq : σ q = .undef) (hsq : s ≠ q) (L : LiftP P c e n cs c') (hb : ∀ u, (bxOf (c' u)).isSome = (bxOf c).isSome) (hrf : ∀ u, refOf (c' u) = none)
    (h : ∀ u, Gh P nt bx (upd (upd σ s (c' u)) q (.gh [u] [.own e n cs])) K) : Gh P nt bx σ K := by
  rintro base St0 w0 a w ⟨St, B, hS, r1, r2, r3⟩
  have h1 := hS.slot s
  rw [hs] at h1
  obtain ⟨u, b1, b2, q1, q2, q3, q4⟩ := L w St (tm a) (tm a s) (B s) h1 (hS.nodup s)
  exact h u base St0 w0 a w ⟨St, _, hsim_move hS hsq (by rw [hq]; rfl) q4 (show SlotR P w St (tm a) (.gh [_] [_]) _ b2 from ⟨_, [], b2, [], rfl, by simp, rfl, q1, rfl, rfl⟩) q2 (fun g hg => .inl (q3 g hg)) (by rw [hs]; exact hb _) (hrf _) rfl rfl, r1, r2, r3⟩
def DropP (P : Program) (c' : V) (u : Value) (e : TypeId) (n : Nat) (cs : List V) (c : V) : Prop :=
  ∀ w St (t : Nat → Value) v b1 b2, SlotR P w St t c' v b1 → Ow P w St (.own e n cs) u b2 → (b1 ++ b2).Nodup → ∃ bs, bs.Nodup ∧ (∀ g ∈ bs, g ∈ b1 ++ b2) ∧ SlotR P w St t c v bs
theorem drop_own {u : Value} {e : TypeId} {n : Nat} {cs : List V} : DropP P (.tok u) u e n cs (.own e n cs) := by
  intro w St t v b1 b2 h1 h2 hn
  have hv : v = u := h1.2.1
  subst hv
  exact ⟨b2, (List.nodup_append.1 hn).2.1, fun g hg => List.mem_append_right _ hg, h2⟩
theorem drop_box {u : Value} {e : TypeId} {n : Nat} {cs A C : List V} : DropP P (.box (A ++ .tok u :: C)) u e n cs (.box (A ++ .own e n cs :: C)) := by
  rintro w St t v b1 b2 ⟨g, T, bs', arr, e1, e2, hr, rfl, hst⟩ h2 hn
  obtain ⟨us1, us2, p1, p2, eu, eb, r1, r2⟩ := hr.app
  obtain ⟨u', us3, p3, p4, eu2, eb2, hc, r3, r4⟩ := r2
  obtain ⟨hp3, hu, _⟩ := r3
  subst hu hp3 eb eb2
  have hn1 := List.nodup_append.1 hn
  have hn2 := List.nodup_cons.1 hn1.1
  have hn3 := List.nodup_append.1 hn2.2
  refine ⟨g :: (p1 ++ (b2 ++ p2)), ?_, ?_, g, T, p1 ++ (b2 ++ p2), arr, e1, e2, ?_, rfl, hst⟩
  · refine List.nodup_cons.2 ⟨fun hm => ?_, List.nodup_append.2 ⟨hn3.1, List.nodup_append.2 ⟨hn1.2.1, hn3.2.1, fun a ha b hb e => hn1.2.2 b (List.mem_cons_of_mem _ (List.mem_append_right _ hb)) a ha e.symm⟩, fun a ha b hb e => ?_⟩⟩
    · simp only [List.mem_append] at hm
      rcases hm with h | h | h
      · exact hn2.1 (List.mem_append_left _ h)
      · exact hn1.2.2 g (List.mem_cons_self) g h rfl
      · exact hn2.1 (List.mem_append_right _ h)
    · rcases List.mem_append.1 hb with hb | hb
      · exact hn1.2.2 a (List.mem_cons_of_mem _ (List.mem_append_left _ ha)) b hb e
      · exact hn3.2.2 a ha b hb e
  · intro k hk
    simp only [List.cons_append, List.mem_cons, List.mem_append] at hk ⊢
    rcases hk with h | h | h | h
    · exact .inl h
    · exact .inr (.inl (.inl h))
    · exact .inr (.inr h)
    · exact .inr (.inl (.inr h))
  · rw [eu, eu2]
    exact OwRow.join r1 (show OwRow P w St (.own e n cs :: C) (u' :: us3) (b2 ++ p2) from ⟨u', us3, b2, p2, rfl, rfl, rfl, h2, r4⟩)
theorem gh_drop {s q : Nat} {u : Value} {e : TypeId} {n : Nat} {cs : List V} {c c' : V} (hs : σ s = c') (hq : σ q = .gh [u] [.own e n cs]) (hsq : s ≠ q) (D : DropP P c' u e n cs c) (hb : (bxOf c).isSome = (bxOf c').isSome) (hrf : refOf c = none)
    (h : Gh P nt bx (upd (upd σ s c) q .undef) K) : Gh P nt bx σ K := by
  rintro base St0 w0 a w ⟨St, B, hS, r1, r2, r3⟩
  have h1 := hS.slot s
  rw [hs] at h1
  have h2 := hS.slot q
  rw [hq] at h2
  obtain ⟨u', us', b1, b2, eu, eb, _, hOw, hnil⟩ := h2
  simp only [List.cons.injEq] at eu
  obtain ⟨rfl, rfl⟩ := eu
  have hb2 : b2 = [] := hnil.2
  subst hb2
  rw [List.append_nil] at eb
  have hnd : (B s ++ b1).Nodup := List.nodup_append.2 ⟨hS.nodup s, by have := hS.nodup q; rwa [eb] at this, fun x hx y hy e => by subst e; exact hS.apart s q hsq x hx (by rw [eb]; exact hy)⟩
  obtain ⟨bs, q1, q2, q3⟩ := D w St (tm a) (tm a s) (B s) b1 h1 hOw hnd
  exact h base St0 w0 a w ⟨St, _, hsim_move hS hsq (by rw [hq]; rfl) q3 (show SlotR P w St (tm a) .undef _ [] from rfl) (by simpa using q1) (fun g hg => by
    rw [List.append_nil] at hg
    rcases List.mem_append.1 (q2 g hg) with hh | hh
    · exact .inl hh
    · exact .inr (by rw [eb]; exact hh)) (by rw [hs]; exact hb) hrf rfl rfl, r1, r2, r3⟩
theorem set_parts {α : Type} {cs : List α} {k : Nat} {c : α} (hk : cs[k]? = some c) (x : α) : cs = cs.take k ++ c :: cs.drop (k + 1) ∧ cs.set k x = cs.take k ++ x :: cs.drop (k + 1) := by
  obtain ⟨hlt, he⟩ := List.getElem?_eq_some_iff.1 hk
  refine ⟨?_, by rw [List.set_eq_take_append_cons_drop, if_pos hlt]⟩
  rw [← he, ← List.drop_eq_getElem_cons hlt, List.take_append_drop]
theorem perm_mid (a b c d : List Nat) : (a ++ (b ++ d) ++ c).Perm (a ++ (b ++ (c ++ d))) := by
  rw [List.append_assoc, List.append_assoc]
  exact List.Perm.append_left _ (List.Perm.append_left _ List.perm_append_comm)
theorem lift_gh {u1 : Value} {e e2 : TypeId} {n m k : Nat} {cs row : List V} (hk : cs[k]? = some (.own e2 m row)) : LiftP P (.gh [u1] [.own e n cs]) e2 m row (fun u => .gh [u1] [.own e n (cs.set k (.tok u))]) := by
  rintro w St t v bs ⟨u, us', b1, b2, eu, eb, hc, ⟨hn, xs, bs', hrow, hxs, hb1, hSt, h0⟩, hnil⟩ hnd
  simp only [List.cons.injEq] at eu
  obtain ⟨rfl, rfl⟩ := eu
  have hb2 : b2 = [] := hnil.2
  subst hb2
  rw [List.append_nil] at eb
  subst eb
  have hlt := (List.getElem?_eq_some_iff.1 hk).1
  have e0 := fun x => set_parts hk x
  rw [(e0 .undef).1] at hxs
  obtain ⟨us1, us2, p1, p2, eu, eb2, r1, r2⟩ := OwRow.app hxs
  obtain ⟨u', us3, p3, p4, eu2, eb3, hc', r3, r4⟩ := r2
  subst eb3 eb2 hb1
  have hp := perm_mid u1.ownBlock.toList p1 p3 p4
  refine ⟨u', u1.ownBlock.toList ++ (p1 ++ p4), p3, r3, hp.nodup_iff.2 hnd, fun g hg => hp.mem_iff.1 hg, u1, [], _, [], rfl, (List.append_nil _).symm, rfl, ⟨hn, xs, p1 ++ p4, hrow, ?_, rfl, hSt, fun hz => ?_⟩, rfl, rfl⟩
  · rw [(e0 (.tok u')).2, eu, eu2]
    exact OwRow.join r1 (show OwRow P w St (.tok u' :: _) (u' :: us3) p4 from ⟨u', us3, [], p4, rfl, by simp, rfl, own_cell r3, r4⟩)
  · have := h0 hz
    subst this
    simp at hlt
theorem drop_gh {u1 u2 : Value} {e e2 : TypeId} {n m k : Nat} {cs row : List V} (hk : cs[k]? = some (.tok u2)) : DropP P (.gh [u1] [.own e n cs]) u2 e2 m row (.gh [u1] [.own e n (cs.set k (.own e2 m row))]) := by
  rintro w St t v c1 c2 ⟨u, us', b1, b2, eu, eb, hc, ⟨hn, xs, bs', hrow, hxs, hb1, hSt, h0⟩, hnil⟩ h2 hnd
  simp only [List.cons.injEq] at eu
  obtain ⟨rfl, rfl⟩ := eu
  have hb2 : b2 = [] := hnil.2
  subst hb2
  rw [List.append_nil] at eb
  subst eb
  have hlt := (List.getElem?_eq_some_iff.1 hk).1
  have e0 := fun x => set_parts hk x
  rw [(e0 .undef).1] at hxs
  obtain ⟨us1, us2, p1, p2, eu, eb2, r1, r2⟩ := OwRow.app hxs
  obtain ⟨u', us3, p3, p4, eu2, eb3, hc', r3, r4⟩ := r2
  obtain ⟨hp3, hu, _⟩ := r3
  subst hu hp3 eb3 eb2 hb1
  have hp := perm_mid u1.ownBlock.toList p1 c2 p2
  refine ⟨u1.ownBlock.toList ++ (p1 ++ (c2 ++ p2)), hp.nodup_iff.1 (by simpa using hnd), fun g hg => by have := hp.mem_iff.2 hg; simpa using this, u1, [], _, [], rfl, (List.append_nil _).symm, rfl, ⟨hn, xs, p1 ++ (c2 ++ p2), hrow, ?_, rfl, hSt, fun hz => ?_⟩, rfl, rfl⟩
  · rw [(e0 (.own e2 m row)).2, eu, eu2]
    exact OwRow.join r1 (show OwRow P w St (.own e2 m row :: _) (u' :: us3) (c2 ++ p2) from ⟨u', us3, c2, p2, rfl, rfl, rfl, h2, r4⟩)
  · have := h0 hz
    subst this
    simp at hlt
variable {α : Type} {f : α → List V}
theorem gh_split {s q : Nat} {l : List α} {c : V} {c' : (Nat → Value) → V} (hs : σ s = c) (hq : σ q = .undef) (hsq : s ≠ q) (S : SplitP P f c l 0 c') (hb : ∀ U, (bxOf (c' U)).isSome = (bxOf c).isSome) (hrf : ∀ U, refOf (c' U) = none)
    (h : ∀ (U : Nat → Value) (us : List Value), us.length = l.length → (∀ i, i < l.length → U i = us.getD i undef) → Gh P nt bx (upd (upd σ s (c' U)) q (.gh us (l.map fun x => tokC (f x)))) K) : Gh P nt bx σ K := by
  rintro base St0 w0 a w ⟨St, B, hS, r1, r2, r3⟩
  have h1 := hS.slot s
  rw [hs] at h1
  obtain ⟨us, b1, b2, q1, q2, q3, q4, q5⟩ := S w St (tm a) (tm a s) (B s) h1 (hS.nodup s)
  have hU : ∀ i, i < l.length → (fun i => us.getD i undef) (0 + i) = us.getD i undef := fun i _ => by simp
  exact h (fun i => us.getD i undef) us q1 (fun i _ => rfl) base St0 w0 a w ⟨St, _, hsim_move hS hsq (by rw [hq]; rfl) (q5 (fun i => us.getD i undef) hU) (show SlotR P w St (tm a) (.gh us _) _ b2 from q2) q3 (fun g hg => .inl (q4 g hg)) (by rw [hs]; exact hb _) (hrf _) rfl rfl, r1, r2, r3⟩
theorem gh_join [BEq α] {s q : Nat} {l : List α} {us : List Value} {U : Nat → Value} {L : List (Nat × α ⊕ α)} {c c' : V} {cs : List V} (hs : σ s = c) (hq : σ q = .gh us cs) (hcs : cs = l.map fun x => tokC (f x)) (hsq : s ≠ q) (J : JoinP P f U c L c') (hU : ∀ i, i < l.length → U i = us.getD i undef) (hok : okJ l L [] = true)
    (hb : (bxOf c').isSome = (bxOf c).isSome) (hrf : refOf c' = none) (h : Gh P nt bx (upd (upd σ s c') q .undef) K) : Gh P nt bx σ K := by
  rintro base St0 w0 a w ⟨St, B, hS, r1, r2, r3⟩
  have k1 := hS.slot s
  rw [hs] at k1
  have k2 := hS.slot q
  rw [hq, hcs] at k2
  obtain ⟨b', q1, q2, q3⟩ := J w St (tm a) (tm a s) (B s) l us (B q) k1 k2 (hS.nodup q) hU hok (hS.nodup s) (fun g hg => hS.apart s q hsq g hg)
  exact h base St0 w0 a w ⟨St, _, hsim_move hS hsq (by rw [hq]; rfl) q1 (show SlotR P w St (tm a) .undef _ [] from rfl) (by rw [List.append_nil]; exact q2) (fun g hg => by rw [List.append_nil] at hg; exact q3 g hg) (by rw [hs]; exact hb) hrf rfl rfl, r1, r2, r3⟩
end
end Go.Proofs.YtkclaipnejgloaaDoor

namespace Go.Proofs.YtkclaipnejgloaaDoor
open Go.RowKit
set_option linter.unusedVariables false
mutual
def argV : V → V
  | .dat n cs => .arg n (argVL cs)
  | .agg cs => .agg (argVL cs)
  | .int k n => .int k n
  | .bool b => .bool b
  | .str s => .str s
  | .fn f => .fn f
  | _ => .undef
def argVL : List V → List V
  | [] => []
  | c :: cs => argV c :: argVL cs
end
mutual
def argAble : V → Bool
  | .dat _ cs => argAbleL cs
  | .int _ _ => true
  | .bool _ => true
  | .str _ => true
  | .fn _ => true
  | _ => false
def argAbleL : List V → Bool
  | [] => true
  | c :: cs => argAble c && argAbleL cs
end
def argAbleA : V → Bool
  | .agg cs => argAbleL cs
  | c => argAble c
section
variable {P : Program} {w : World} {St : Nat → Nat → Prop} {N : Nat → Prop}
theorem argVL_nil {cs : List V} : argVL cs ≠ [] → cs ≠ [] := fun h e => h (by subst e; rfl)
mutual
theorem Rd.argd (hst : ∀ b o, St b o → N b) : ∀ (c : V) {v : Value}, argAble c = true → Rd w St c v → Rd w (fun b o => St b o ∨ N b) (argV c) v
  | .int _ _, _, _, h => h
  | .bool _, _, _, h => h
  | .str _, _, _, h => h
  | .fn _, _, _, h => h
  | .dat _ cs, _, ha, ⟨hn, A, c, e, hc, h, h0⟩ => ⟨hn, A, c, e, hc, fun hp => let ⟨b, off, ea, hr⟩ := h hp; ⟨b, off, ea, fun hne o => .inr (RdRow.blk hst b off cs (argVL_nil hne) hr), RdRow.argd hst b off cs ha hr⟩, fun hz => by rw [h0 hz]; rfl⟩
  | .own _ _ _, _, ha, _ => by cases ha
  | .pin _ _ _, _, ha, _ => by cases ha
  | .arg _ _, _, ha, _ => by cases ha
  | .agg _, _, ha, _ => by cases ha
  | .tup _, _, ha, _ => by cases ha
  | .box _, _, ha, _ => by cases ha
  | .uni _ _ _, _, ha, _ => by cases ha
  | .same _, _, ha, _ => by cases ha
  | .cref _ _, _, ha, _ => by cases ha
  | .adr _ _, _, ha, _ => by cases ha
  | .gh _ _, _, ha, _ => by cases ha
  | .tok _, _, ha, _ => by cases ha
  | .undef, _, ha, _ => by cases ha
theorem RdRow.argd (hst : ∀ b o, St b o → N b) (b : Nat) : ∀ (off : Nat) (cs : List V), argAbleL cs = true → RdRow w St b off cs → RdRow w (fun b o => St b o ∨ N b) b off (argVL cs)
  | _, [], _, _ => trivial
  | off, c :: cs, ha, ⟨⟨h1, u, hu, hr⟩, h2⟩ => by
    rw [argAbleL, Bool.and_eq_true] at ha
    exact ⟨⟨.inl h1, u, hu, Rd.argd hst c ha.1 hr⟩, RdRow.argd hst b (off + 1) cs ha.2 h2⟩
theorem RdRow.blk (hst : ∀ b o, St b o → N b) (b : Nat) : ∀ (off : Nat) (cs : List V), cs ≠ [] → RdRow w St b off cs → N b
  | _, [], h, _ => absurd rfl h
  | off, _ :: _, _, ⟨⟨h1, _⟩, _⟩ => hst b off h1
end
theorem RdL.argd (hst : ∀ b o, St b o → N b) : ∀ (cs : List V) {us : List Value}, argAbleL cs = true → RdL w St cs us → RdL w (fun b o => St b o ∨ N b) (argVL cs) us
  | [], _, _, h => h
  | c :: cs, _, ha, ⟨u, us', e, h1, h2⟩ => by
    rw [argAbleL, Bool.and_eq_true] at ha
    exact ⟨u, us', e, Rd.argd hst c ha.1 h1, RdL.argd hst cs ha.2 h2⟩
theorem RdA.argd (hst : ∀ b o, St b o → N b) {c : V} {v : Value} (ha : argAbleA c = true) (h : RdA w St c v) : RdA w (fun b o => St b o ∨ N b) (argV c) v := by
  cases c <;> first | exact Rd.argd hst _ ha h | (cases ha; done) | skip
  obtain ⟨us, e, h⟩ := h
  exact ⟨us, e, RdL.argd hst _ ha h⟩
theorem RdAs.argd (hst : ∀ b o, St b o → N b) : ∀ {args : List V} {vs : List Value}, args.all argAbleA = true → RdAs w St args vs → RdAs w (fun b o => St b o ∨ N b) (args.map argV) vs
  | [], _, _, h => h
  | c :: args, _, ha, ⟨u, us', e, h1, h2⟩ => by
    simp only [List.all_cons, Bool.and_eq_true] at ha
    exact ⟨u, us', e, RdA.argd hst ha.1 h1, RdAs.argd hst ha.2 h2⟩
end
theorem argC_plain {c : V} (h : argAble c = true) : plainC (argV c) = true := by
  cases c <;> first | rfl | cases h
theorem argL_plain : ∀ {cs : List V}, argAbleL cs = true → (argVL cs).all plainC = true
  | [], _ => rfl
  | c :: cs, h => by
    rw [argAbleL, Bool.and_eq_true] at h
    rw [argVL, List.all_cons, argC_plain h.1, argL_plain h.2]; rfl
theorem argA_plain {c : V} (h : argAbleA c = true) : plainA (argV c) = true := by
  cases c <;> first | exact argC_plain h | (cases h; done) | skip
  exact argL_plain (show argAbleL _ = true from h)
def deepT : V → Bool
  | .tup cs => deepL cs
  | c => deep c
section
variable {P : Program} {w w' : World} {St St' : Nat → Nat → Prop}
theorem OwTup.kept : ∀ (cs : List V) {us : List Value} {bs : List Nat}, deepL cs = true → OwTup P w St cs us bs → (∀ g ∈ bs, w'.heap[g]? = w.heap[g]? ∧ ∀ o, St' g o ↔ St g o) → OwTup P w' St' cs us bs
  | [], _, _, _, h, _ => h
  | c :: cs, _, _, hd, ⟨u, us', b1, b2, e1, e2, h1, h2⟩, hb => by
    have hd' : deep c = true ∧ deepL cs = true := by simpa [deepL] using hd
    exact ⟨u, us', b1, b2, e1, e2, Ow.kept c hd'.1 h1 (fun g hg => hb g (by rw [e2]; exact List.mem_append_left _ hg)), OwTup.kept cs hd'.2 h2 (fun g hg => hb g (by rw [e2]; exact List.mem_append_right _ hg))⟩
theorem deepT_kept {c : V} {v : Value} {bs : List Nat} (hd : deepT c = true) (h : Ow P w St c v bs) (hb : ∀ g ∈ bs, w'.heap[g]? = w.heap[g]? ∧ ∀ o, St' g o ↔ St g o) : Ow P w' St' c v bs := by
  cases c <;> first | exact Ow.kept _ hd h hb | skip
  obtain ⟨us, e, h⟩ := h
  exact ⟨us, e, OwTup.kept _ hd h hb⟩
end
section
variable {P : Program} {tb : Tb}
theorem sound_arg (htb : TbOk P tb) {f : FuncId} {fn : Func} {c : Code} {args : List V} {r : V} (hf : P.funcs[f]? = some fn) (hb : fn.body = some c) (hname : (fn.name == "runtime.NumGoroutine") = false) (bx : List Nat) (hlen : args.length ≤ fn.ntmps) (hargs : args.all argAbleA = true) (hr : deepT r = true)
    (hn : (fn.results.toList.map rvSlot).Nodup) (h : CodeS P fn.ntmps bx c (initS (args.map argV)) (fun e σ => (e = .ret ∨ e = .normal) ∧ resF tb σ fn.results.toList = some r)) : SoundAt P f args r := by
  refine ⟨⟨fn, hf, by rw [hb]; rfl, hname⟩, fun w St vs hst hgl hvs => ?_⟩
  have hvs' := RdAs.argd hst hargs hvs
  have hst' : ∀ b o, (St b o ∨ b < w.heap.size) → b < w.heap.size := fun b o h => h.elim (hst b o) id
  have hpl : (args.map argV).all plainA = true := by
    rw [List.all_map, List.all_eq_true]
    exact fun x hx => argA_plain (List.all_eq_true.1 hargs x hx)
  obtain ⟨hl, hat⟩ := args_at hvs'
  refine calls_of_wp hf hb ?_
  have hrel := rel_start (P := P) (bx := bx) hst' (hgl.of (fun b hb o => .inl (hb o)) (fun _ _ _ => rfl)) hvs' (by simpa using hlen) hpl
  refine wp_mono (h _ _ _ _ _ hrel) ?_
  rintro e a' w' ⟨σ', ⟨he, hres⟩, St1, B', h1, h2, h3, h4⟩
  have hfin : a'.defers = [] ∧ ∃ v, (results fn a'.tmps).run P w' = .ok v w' ∧ Ret P w St r (.returned v) w' := by
    obtain ⟨v, bs, q1, q2, q3, q4⟩ := res_run htb h1 hn hres
    have hge : ∀ g ∈ bs, w.heap.size ≤ g := fun g hg => Nat.le_of_not_lt (q4 g hg).1
    refine ⟨h1.defers, v, q1, v, bs, fun b o => (b < w.heap.size ∧ St b o) ∨ (w.heap.size ≤ b ∧ St1 b o), rfl, ⟨h2.os, h2.tape, h2.output, h2.size, h2.block⟩, fun b o hlt => ⟨fun hh => hh.elim (·.2) (fun hh => absurd hh.1 (by omega)), fun hh => .inl ⟨hlt, hh⟩⟩, fun b o hh => ?_, ?_, q3, fun g hg => ⟨hge g hg, (q4 g hg).2⟩⟩
    · rcases hh with hh | hh
      · exact Nat.lt_of_lt_of_le hh.1 h2.size
      · exact h1.st b o hh.2
    · exact deepT_kept hr q2 (fun g hg => ⟨rfl, fun o => ⟨fun hh => hh.elim (fun hh => absurd hh.1 (by have := hge g hg; omega)) (·.2), fun hh => .inr ⟨hge g hg, hh⟩⟩⟩)
  rcases he with rfl | rfl
  · exact hfin
  · exact hfin
theorem RdAs.mono {w w' : World} {St St' : Nat → Nat → Prop} (hs : ∀ b o, St b o → St' b o) (he : Ext St w w') : ∀ {args : List V} {vs : List Value}, RdAs w St args vs → RdAs w' St' args vs
  | [], _, h => h
  | c :: args, _, ⟨u, us', e, h1, h2⟩ => ⟨u, us', e, h1.mono hs he, RdAs.mono hs he h2⟩
theorem ptr_ofO (htb : TbOk P tb) {f : FuncId} {fn : Func} {c : Code} {cs args cs' : List V} (hf : P.funcs[f]? = some fn) (hb : fn.body = some c) (hname : (fn.name == "runtime.NumGoroutine") = false) (bx : List Nat) (hlen : args.length + 1 ≤ fn.ntmps) (h0 : 0 ∈ bx) (hk0 : keep0 ∈ bx) (hargs : args.all argAbleA = true)
    (hrs : fn.results.toList = []) (hcs : deepL cs = true) (hcs' : deepL cs' = true) (h : CodeS P fn.ntmps bx c (initS (.box cs :: args.map argV)) (fun e σ => (e = .ret ∨ e = .normal) ∧ resF tb σ fn.results.toList = some (.tup []) ∧ σ 0 = .box cs')) : PtrO P f cs args cs' := by
  refine ⟨⟨fn, hf, by rw [hb]; rfl, hname⟩, fun w St g T arr bs0 vs hst hgl hg hrow hnd hrg hng hvs => ?_⟩
  have hgs : g < w.heap.size := by
    rcases Nat.lt_or_ge g w.heap.size with h | h
    · exact h
    · rw [Array.getElem?_eq_none h] at hg; cases hg
  have hN : ∀ b o, (St b o ∧ b ∉ bs0) → (b < w.heap.size ∧ b ∉ g :: bs0) := fun b o h => ⟨hst b o h.1, fun hm => (List.mem_cons.1 hm).elim (fun e => hng o (e ▸ h.1)) h.2⟩
  have hvs0 := RdAs.argd (N := fun b => b < w.heap.size ∧ b ∉ g :: bs0) hN hargs hvs
  have hvs' : RdAs w (fun b o => St b o ∨ (b < w.heap.size ∧ b ∉ g :: bs0)) (args.map argV) vs := hvs0.mono (fun b o h => h.imp (·.1) id) (fun _ _ _ => rfl)
  have hst' : ∀ b o, (St b o ∨ (b < w.heap.size ∧ b ∉ g :: bs0)) → b < w.heap.size := fun b o h => h.elim (hst b o) (·.1)
  have hrow' : OwRow P w (fun b o => St b o ∨ (b < w.heap.size ∧ b ∉ g :: bs0)) cs arr.toList bs0 := OwRow.kept cs hcs hrow (fun k hk => ⟨rfl, fun o => ⟨fun h => h.elim id (fun h => absurd (List.mem_cons_of_mem _ hk) h.2), .inl⟩⟩)
  have hpl : (args.map argV).all plainA = true := by
    rw [List.all_map, List.all_eq_true]
    exact fun x hx => argA_plain (List.all_eq_true.1 hargs x hx)
  obtain ⟨hl, hat⟩ := args_at hvs'
  rw [List.length_map] at hl
  refine calls_of_wp hf hb ?_
  have hrel : Rel P fn.ntmps bx ⟨fun b => b < w.heap.size ∧ b ∉ g :: bs0, some (.pointer (some ⟨g, 0, none⟩))⟩ (fun b o => St b o ∨ (b < w.heap.size ∧ b ∉ g :: bs0)) w (initS (.box cs :: args.map argV)) { tmps := (Value.pointer (some ⟨g, 0, none⟩) :: vs).toArray ++ Array.replicate (fn.ntmps - (Value.pointer (some ⟨g, 0, none⟩) :: vs).toArray.size) undef, defers := [] } w := by
    refine ⟨_, fun s => if s = 0 then g :: bs0 else [], ?_, BelowK.refl _ _, fun _ _ _ => Iff.rfl, fun _ h => h.1⟩
    refine
    { size := by simp; omega
      defers := rfl
      slot := fun s => ?_
      boxes := fun s cs e => ?_
      crefs := fun s b e => ?_
      nodup := fun s => by
        split
        · exact hnd
        · exact List.nodup_nil
      apart := fun s t hst k hk hk' => by
        split at hk
        · split at hk'
          · omega
          · simp at hk'
        · simp at hk
      hnodup := List.nodup_nil
      hapart := fun _ k hk => by simp
      range := fun s k hk => by
        split at hk
        · exact ⟨fun h => h.2 hk, (List.mem_cons.1 hk).elim (fun e => e ▸ hgs) (hrg k)⟩
        · simp at hk
      hrange := fun k hk => by simp at hk
      st := hst'
      gl := hgl.of (fun b hb o => .inl (hb o)) (fun _ _ _ => rfl)
      pin := fun v e => by
        simp only [Option.some.injEq] at e
        subst e
        rw [tm_args]
        exact ⟨rfl, h0, hk0⟩ }
    · rw [tm_args]
      cases s with
      | zero => exact ⟨g, T, bs0, arr, rfl, hg, hrow', rfl, fun o h => h.elim (hng o) (fun h => h.2 List.mem_cons_self)⟩
      | succ s =>
        rw [if_neg (by omega)]
        cases hc : (args.map argV)[s]? with
        | none =>
          have : vs[s]? = none := by
            rw [List.getElem?_eq_none_iff, List.length_map] at hc
            rw [List.getElem?_eq_none_iff]; omega
          simp only [initS, List.getElem?_cons_succ, hc, this, Option.getD_none]
          exact ⟨[], rfl, rfl, rfl⟩
        | some c =>
          obtain ⟨v, hv, hr⟩ := hat s c hc
          simp only [initS, List.getElem?_cons_succ, hc, hv, Option.getD_some]
          exact (plain_arg (List.all_eq_true.1 hpl c (List.mem_of_getElem? hc)) hr).slot
    · cases s with
      | zero => exact h0
      | succ s =>
        simp only [initS, List.getElem?_cons_succ] at e
        cases hc : (args.map argV)[s]? with
        | none => rw [hc] at e; cases e
        | some c =>
          rw [hc] at e
          have hp := List.all_eq_true.1 hpl c (List.mem_of_getElem? hc)
          simp only [Option.getD_some] at e
          cases c <;> first | (cases hp; done) | (cases e; done)
    · cases s with
      | zero => cases e
      | succ s =>
        simp only [initS, List.getElem?_cons_succ] at e
        cases hc : (args.map argV)[s]? with
        | none => rw [hc] at e; cases e
        | some c =>
          rw [hc] at e
          have hp := List.all_eq_true.1 hpl c (List.mem_of_getElem? hc)
          simp only [Option.getD_some] at e
          cases c <;> first | (cases hp; done) | (cases e; done)
  refine wp_mono (h _ _ _ _ _ hrel) ?_
  rintro e a' w' ⟨σ', ⟨he, hres, hbox⟩, St1, B', h1, h2, h3, h4⟩
  have hfin : a'.defers = [] ∧ ∃ v, (results fn a'.tmps).run P w' = .ok v w' ∧ RetO P w St g bs0 cs' (.returned v) w' := by
    obtain ⟨v, bs, q1, q2, q3, q4⟩ := res_runB htb h1 (by rw [hrs]; exact List.nodup_nil) hres
    obtain ⟨us, eu, hu, -⟩ := q2
    have hs0 := h1.slot 0
    rw [hbox] at hs0
    obtain ⟨g', T', bs', arr', e1, e2, e3, e4, e5⟩ := hs0
    have hgg : g' = g := by
      have := (h1.pin _ rfl).1
      rw [e1] at this
      injection this with this
      injection this with this
      injection this
    subst hgg
    have hn1 := h1.nodup 0
    rw [e4] at hn1
    have hk : ∀ k ∈ bs', (k ∈ bs0 ∨ w.heap.size ≤ k) ∧ k < w'.heap.size := fun k hk => by
      have hr := h1.range 0 k (by rw [e4]; exact List.mem_cons_of_mem _ hk)
      refine ⟨Classical.byContradiction fun hc => ?_, hr.2⟩
      rw [not_or] at hc
      exact hr.1 ⟨by omega, fun hm => (List.mem_cons.1 hm).elim (fun e => (List.nodup_cons.1 hn1).1 (e ▸ hk)) hc.1⟩
    refine ⟨h1.defers, v, q1, v, bs', fun b o => (b < w.heap.size ∧ b ∉ bs0 ∧ St b o) ∨ ((w.heap.size ≤ b ∨ b ∈ bs0) ∧ St1 b o), T', arr', rfl, h2, fun b o hb hbn => ?_, fun b o hh => ?_, e2, ?_, ⟨us, eu, hu, rfl⟩, hn1, hk⟩
    · exact ⟨fun hh => hh.elim (·.2.2) (fun hh => hh.1.elim (fun h => absurd hb (by omega)) (fun h => absurd h hbn)), fun hh => .inl ⟨hb, hbn, hh⟩⟩
    · exact hh.elim (fun hh => Nat.lt_of_lt_of_le hh.1 h2.size) (fun hh => h1.st b o hh.2)
    · exact OwRow.kept cs' hcs' e3 (fun k hk' => ⟨rfl, fun o => ⟨fun hh => hh.elim (fun hh => (hk k hk').1.elim (fun h => absurd h hh.2.1) (fun h => absurd hh.1 (by omega))) (·.2), fun hh => .inr ⟨(hk k hk').1.symm, hh⟩⟩⟩)
  rcases he with rfl | rfl
  · exact hfin
  · exact hfin
theorem ptr_litO (htb : TbOk P tb) {f : FuncId} {nt : Nat} {bx : List Nat} {rs : List ResultVar} {l : LC} {cs args cs' : List V} (hl : Lit P f nt bx rs l) (hlen : args.length + 1 ≤ nt) (hb : (bx.contains 0 && bx.contains keep0) = true) (hargs : args.all argAbleA = true) (hrs : rs = []) (hcs : deepL cs = true) (hcs' : deepL cs' = true)
    (h : LS P nt bx l (initS (.box cs :: args.map argV)) (retP tb rs (.tup []) cs')) : PtrO P f cs args cs' := by
  obtain ⟨⟨fn, c, h1, h2, h3, rfl, rfl, h6, h7⟩, hn, hL⟩ := hl
  simp only [Bool.and_eq_true, List.contains_iff_mem] at hb
  exact ptr_ofO htb h1 h2 h3 bx hlen hb.1 hb.2 hargs hrs hcs hcs' (h c h6 h7 hL)
end
def sfY : PL → Prop
  | [] => True
  | (_, c) :: L => safeV c = true ∧ sfY L
theorem yn : sfY [] := trivial
theorem yc {q : Nat} {c : V} {L : PL} (h : safeV c = true) (k : sfY L) : sfY ((q, c) :: L) := ⟨h, k⟩
theorem sfY_of : ∀ {L : PL}, sfY L → ∀ q, safeV (ofL L q) = true
  | [], _, q => rfl
  | (r, c) :: L, ⟨h1, h2⟩, q => by
    by_cases e : q = r
    · subst e
      rw [show ofL ((q, c) :: L) q = c from by simp [ofL, upd_same]]
      exact h1
    · rw [show ofL ((r, c) :: L) q = ofL L q from by simp [ofL, upd_ne _ _ e]]
      exact sfY_of h2 q
theorem lk_none : ∀ {L : PL} {q : Nat}, q ∉ L.map (·.1) → ofL L q = .undef
  | [], _, _ => rfl
  | (s, c) :: L, q, h => by
    rw [List.map_cons, List.mem_cons, not_or] at h
    rw [ofL_cons, upd_ne _ _ h.1]
    exact lk_none h.2
theorem keepL_at {L : PL} : ∀ {ss : List Nat} {L' : PL}, keepL L ss = some L' → (∀ q, q ∈ ss → lk L q = some (ofL L' q)) ∧ (∀ q, q ∉ ss → ofL L' q = .undef) ∧ L'.map (·.1) = ss
  | [], _, h => by cases h; exact ⟨fun q hq => by simp at hq, fun _ _ => rfl, rfl⟩
  | s :: ss, _, h => by
    rw [keepL] at h
    obtain ⟨c, h1, h⟩ := ob_some h
    obtain ⟨L1, h2, h⟩ := ob_some h
    cases h
    obtain ⟨i1, i2, i3⟩ := keepL_at h2
    refine ⟨fun q hq => ?_, fun q hq => ?_, by rw [List.map_cons, i3]⟩
    · by_cases e : q = s
      · subst e; rw [ofL_cons, upd_same]; exact h1
      · rw [ofL_cons, upd_ne _ _ e]; exact i1 q ((List.mem_cons.1 hq).resolve_left e)
    · rw [List.mem_cons, not_or] at hq
      rw [ofL_cons, upd_ne _ _ hq.1]; exact i2 q hq.2
def offL (L : PL) (S : List Nat) : List Nat := (L.map (·.1)).filter fun q => !S.contains q
theorem offL_in {L : PL} {S : List Nat} {q : Nat} : (offL L S).contains q = true ↔ q ∈ L.map (·.1) ∧ q ∉ S := by
  unfold offL
  rw [List.contains_iff_mem, List.mem_filter, Bool.not_eq_true', ← Bool.not_eq_true, List.contains_iff_mem]
theorem keep_kill {L L1 : PL} {S : List Nat} {g q : Nat} (h : keepS L S = some L1) (hg : q ≠ g) : kill (offL L (g :: S)) (ofL L) q = ofL L1 q := by
  obtain ⟨L', h1, h⟩ := ob_some h
  obtain ⟨h2, h⟩ := if_some h
  cases h
  obtain ⟨i1, i2, i3⟩ := keepL_at h1
  by_cases hq : q ∈ S
  · have e1 := lk_ok (i1 q hq)
    have hD : ¬ (offL L (g :: S)).contains q = true := fun h => (offL_in.1 h).2 (List.mem_cons_of_mem _ hq)
    unfold kill
    rw [if_neg hD, e1]
    cases hr : refOf (ofL L1 q) with
    | none => rfl
    | some b =>
      have hb : b ∈ S := by
        obtain ⟨p, hp, hpr⟩ := ofL_mem hr
        have := List.all_eq_true.1 h2 p hp
        rw [hpr, i3] at this
        exact List.contains_iff_mem.1 this
      have hD' : ¬ (offL L (g :: S)).contains b = true := fun h => (offL_in.1 h).2 (List.mem_cons_of_mem _ hb)
      simp only [if_neg hD']
  · rw [i2 q hq]
    by_cases hk : q ∈ L.map (·.1)
    · exact kill_at (offL_in.2 ⟨hk, fun h => (List.mem_cons.1 h).elim hg hq⟩)
    · unfold kill
      rw [lk_none hk]
      split <;> rfl
theorem repl_at {α : Type} {f : α → List V} {es : Nat} (z : ∀ x, (f x).length = es) {l : List α} {i : Int} {y : α} (gy : geti l i = some y) {o : Nat} {vs : List V} (ho : o + vs.length ≤ es) {x' : α} (hx : repl (f y) o vs = f x') : repl (l.flatMap f) (i.toNat * es + o) vs = (seti l i x').flatMap f := by
  obtain ⟨g1, g2, g3⟩ := geti_some gy
  have hk : i.toNat < l.length := by omega
  unfold seti
  rw [← repl_flat z hk x', ← hx]
  unfold repl
  have e1 : (l.flatMap f).drop (i.toNat * es) = f y ++ (l.flatMap f).drop ((i.toNat + 1) * es) := by
    rw [flat_drop z, flat_drop z]
    obtain ⟨hlt, he⟩ := List.getElem?_eq_some_iff.1 g3
    rw [List.drop_eq_getElem_cons hlt, he, List.flatMap_cons]
  have hl : ((f y).take o ++ vs ++ (f y).drop (o + vs.length)).length = es := by
    have := z y
    simp only [List.length_append, List.length_take, List.length_drop]
    omega
  rw [hl]
  have e2 : (l.flatMap f).take (i.toNat * es + o) = (l.flatMap f).take (i.toNat * es) ++ (f y).take o := by
    have hlen : i.toNat * es ≤ (l.flatMap f).length := by
      rw [flat_len z]
      exact Nat.mul_le_mul_right _ (Nat.le_of_lt hk)
    rw [List.take_add, e1, List.take_append_of_le_length (by rw [z y]; omega)]
  have e3 : (l.flatMap f).drop (i.toNat * es + o + vs.length) = (f y).drop (o + vs.length) ++ (l.flatMap f).drop (i.toNat * es + es) := by
    rw [Nat.add_assoc, ← List.drop_drop, e1, List.drop_append_of_le_length (by rw [z y]; omega), Nat.add_mul, Nat.one_mul]
  rw [e2, e3]
  simp only [List.append_assoc]
theorem get_at {α : Type} {f : α → List V} {es : Nat} (z : ∀ x, (f x).length = es) {l : List α} {i : Int} {y : α} (gy : geti l i = some y) {o : Nat} {dd : TyD} (ho : o + dd.size ≤ es) (hp : 0 < dd.size) : getCells dd (l.flatMap f) (i.toNat * es + o) = getCells dd (f y) o ∧ i.toNat * es + o + dd.size ≤ (l.flatMap f).length := by
  obtain ⟨g1, g2, g3⟩ := geti_some gy
  have hk : i.toNat < l.length := by omega
  have e1 : (l.flatMap f).drop (i.toNat * es) = f y ++ (l.flatMap f).drop ((i.toNat + 1) * es) := by
    rw [flat_drop z, flat_drop z]
    obtain ⟨hlt, he⟩ := List.getElem?_eq_some_iff.1 g3
    rw [List.drop_eq_getElem_cons hlt, he, List.flatMap_cons]
  have hz := z y
  refine ⟨?_, ?_⟩
  · have e2 : ∀ k, k < es → (l.flatMap f)[i.toNat * es + k]? = (f y)[k]? := fun k hk => by
      rw [← List.getElem?_drop, e1, List.getElem?_append_left (by omega)]
    cases dd with
    | st n zz fs =>
      simp only [getCells, TyD.size] at ho ⊢
      rw [← List.drop_drop, e1, List.drop_append_of_le_length (by omega), List.take_append_of_le_length (by rw [List.length_drop]; omega)]
    | _ => simp only [getCells, TyD.size] at ho ⊢; rw [e2 o (by omega)]
  · rw [flat_len z]
    have : (i.toNat + 1) * es ≤ l.length * es := Nat.mul_le_mul_right _ hk
    rw [Nat.add_mul, Nat.one_mul] at this
    omega
theorem gk {α : Type} {f : α → List V} {es : Nat} (z : ∀ x, (f x).length = es) {l : List α} {i : Int} {y : α} (gy : geti l i = some y) {o : Nat} (ho : Nat.ble (o + 1) es = true) : i.toNat * es + o < (l.flatMap f).length := (get_at (dd := .sc (.bool false)) z gy (o := o) (nb ho) (Nat.zero_lt_one)).2
theorem sl {α : Type} {n : Nat} {l : List α} {i : Int} {x : α} (h : n = l.length) : n = (seti l i x).length := by unfold seti; rw [List.length_set]; exact h
section
variable {P : Program} {tb : Tb} {cns : List Nat} {L : PL} {K : PS → Prop} {s t : Nat} {x y : Operand} {nt : Nat} {bx : List Nat}
theorem qIt {d : Nat} {α : Type} {l : List α} {y0 : α} {g n m es eb : Nat} {i : Int} {kk : IntKind} {e : TypeId} {ez : List V} (hx : opO L x = some (.tok (.slice (some ⟨g, 0, none⟩) n m))) (hy : opO L y = some (.int kk i)) (ht : tb s = some (.sl e es eb ez)) (hn : n = l.length) (gi : geti l i = some y0)
    (k : K (ofL ((d, .tok (.pointer (some ⟨g, i.toNat * es, none⟩))) :: L))) : evO P tb cns ⟨some d, .indexAddr s x y, t, none⟩ (ofL L) K := by
  obtain ⟨g1, g2, g3⟩ := geti_some gi
  subst hn
  refine ⟨?_, ?_⟩
  · simp only [pc, iaC', ht, iaSC, opO_ok hx, opO_ok hy, ixOf, tokIC]; exact ⟨g1, g2⟩
  · simp only [pv, iaV', ht, iaS, opO_ok hx, opO_ok hy, ixOf, tokI]; exact k
theorem qLe {q d : Nat} {α : Type} {f : α → List V} {l : List α} {y0 : α} {i : Int} {g off m n es : Nat} {e : TypeId} {v : V} {dd : TyD} (o : Nat) (hq : (Nat.beq q gS || Nat.beq q gU) = true) (hc : cns.contains d = true) (hx : adO L x = some (.tok (.pointer (some ⟨g, off, none⟩)))) (ho : off = i.toNat * es + o) (ht : tb s = some dd)
    (hg : lk L q = some (.gh [.slice (some ⟨g, 0, none⟩) n m] [.own e n (l.flatMap f)])) (z : ∀ x, (f x).length = es) (gy : geti l i = some y0) (hol : (Nat.ble (o + dd.size) es && Nat.ble 1 dd.size) = true) (hv : frc (getCells dd (f y0) o) = some v) (k : K (ofL ((d, v) :: L))) :
    evO P tb cns ⟨some d, .load s x, t, none⟩ (ofL L) K := by
  subst ho
  rw [Bool.and_eq_true] at hol
  obtain ⟨e1, e2⟩ := get_at (dd := dd) z gy (nb hol.1) (nb hol.2)
  simp only [evO, hc, if_true, loadS, ht, adO_ok hx]
  refine ⟨trivial, q, g, _, e, n, m, _, rfl, (Bool.or_eq_true_iff.1 hq).imp Nat.eq_of_beq_eq_true Nat.eq_of_beq_eq_true, lk_ok hg, e2, nb hol.2, ?_⟩
  rw [e1, ← frc_eq hv]
  exact k
theorem qLh {d : Nat} {u2 : Value} {g off k0 m n : Nat} {e : TypeId} {cs : List V} {dd : TyD} (hc : cns.contains d = true) (hx : adO L x = some (.tok (.pointer (some ⟨g, off, none⟩)))) (ho : off = k0) (ht : tb s = some dd) (hdd : (match dd with | .st .. => false | _ => true) = true)
    (hg : lk L gU = some (.gh [.slice (some ⟨g, 0, none⟩) n m] [.own e n (cs.set k0 (.tok u2))])) (hk : k0 < cs.length) (k : K (ofL ((d, .tok u2) :: L))) : evO P tb cns ⟨some d, .load s x, t, none⟩ (ofL L) K := by
  subst ho
  have h1 : dd.size = 1 := by cases dd <;> first | rfl | cases hdd
  simp only [evO, hc, if_true, loadS, ht, adO_ok hx]
  refine ⟨trivial, gU, g, _, e, n, m, _, rfl, .inr rfl, lk_ok hg, by rw [h1, List.length_set]; omega, by omega, ?_⟩
  have : getCells dd (cs.set off (.tok u2)) off = .tok u2 := by
    cases dd <;> first | (simp only [getCells, List.getElem?_set_self hk]; rfl) | cases hdd
  rw [this]
  exact k
theorem qStV {α : Type} {f : α → List V} {l : List α} {y0 : α} {i : Int} {g off m n es : Nat} {e : TypeId} {c : V} {dd : TyD} {L0 L1 : PL} {vc : List V} (o : Nat) (x' : α) (S : List Nat) (hx : adO L x = some (.tok (.pointer (some ⟨g, off, none⟩)))) (ho : off = i.toNat * es + o) (ht : tb s = some dd)
    (hg : lk L gS = some (.gh [.slice (some ⟨g, 0, none⟩) n m] [.own e n (l.flatMap f)])) (hy : opO L y = some c) (h0 : (!(yT y).contains gS && !S.contains gS) = true) (hvc : stoV (ofL L) y vc) (hn : (Nat.beq vc.length dd.size && Nat.ble (o + dd.size) es) = true) (hk0 : takeL L y c = some L0) (hk : keepS L0 S = some L1)
    (hx' : repl (f y0) o vc = f x') (z : ∀ x, (f x).length = es) (gy : geti l i = some y0) (hd : ∀ x, sdeepL (f x) = true) (hd' : sdeepL vc = true) (hs : sfY L1) (k : K (ofL ((gS, .gh [.slice (some ⟨g, 0, none⟩) n m] [.own e n ((seti l i x').flatMap f)]) :: L1))) :
    evO P tb cns ⟨none, .store s x y, t, none⟩ (ofL L) K := by
  simp only [Bool.and_eq_true, Bool.not_eq_true'] at h0 hn
  subst ho
  have e1 := opO_ok hy
  have hn1 : vc.length = dd.size := Nat.eq_of_beq_eq_true hn.1
  have hn2 := nb hn.2
  have e0 : ofL L0 = takeS (ofL L) y := takeL_ok hy hk0
  obtain ⟨g1, g2, g3⟩ := geti_some gy
  have hfl : i.toNat * es + o + dd.size ≤ (l.flatMap f).length := by
    rw [flat_len z]
    have : (i.toNat + 1) * es ≤ l.length * es := Nat.mul_le_mul_right _ (by omega)
    rw [Nat.add_mul, Nat.one_mul] at this
    omega
  refine ⟨rfl, ?_⟩
  simp only [stoS, ht, adO_ok hx]
  refine ⟨g, _, e, n, m, _, offL L0 (gS :: S), vc, rfl, lk_ok hg, ?_, hvc, hd', hn1, hfl, ?_, fun q hq => ?_, ?_⟩
  · exact sdF hd l
  · rw [h0.1, Bool.false_or]
    cases hc : (offL L0 (gS :: S)).contains gS with
    | false => rfl
    | true => exact absurd (List.mem_cons_self) (offL_in.1 hc).2
  · rw [← e0]
    by_cases hD : (offL L0 (gS :: S)).contains q = true
    · exact .inl hD
    · right
      have e2 := keep_kill hk hq
      rcases kill_or (offL L0 (gS :: S)) (ofL L0) q with e3 | e3
      · by_cases hm : q ∈ L0.map (·.1)
        · have hS : q ∈ S := Classical.byContradiction fun h => hD (offL_in.2 ⟨hm, fun h' => (List.mem_cons.1 h').elim hq h⟩)
          obtain ⟨L', k1, k2⟩ := ob_some hk
          obtain ⟨_, k2⟩ := if_some k2
          cases k2
          rw [lk_ok ((keepL_at k1).1 q hS)]
          exact sfY_of hs q
        · rw [lk_none hm]; rfl
      · rw [← e3, e2]; exact sfY_of hs q
  · rw [← e0, repl_at z gy (by rw [hn1]; exact hn2) hx']
    have e4 : upd (kill (offL L0 (gS :: S)) (ofL L0)) gS (.gh [.slice (some ⟨g, 0, none⟩) n m] [.own e n ((seti l i x').flatMap f)]) = ofL ((gS, .gh [.slice (some ⟨g, 0, none⟩) n m] [.own e n ((seti l i x').flatMap f)]) :: L1) := by
      rw [ofL_cons]
      funext q
      by_cases hq : q = gS
      · subst hq; rw [upd_same, upd_same]
      · rw [upd_ne _ _ hq, upd_ne _ _ hq]; exact keep_kill hk hq
    rw [e4]
    exact k
theorem qSt {α : Type} {f : α → List V} {l : List α} {y0 : α} {i : Int} {g off m n es : Nat} {e : TypeId} {c : V} {dd : TyD} {L0 L1 : PL} (o : Nat) (x' : α) (S : List Nat) (hx : adO L x = some (.tok (.pointer (some ⟨g, off, none⟩)))) (ho : off = i.toNat * es + o) (ht : tb s = some dd)
    (hg : lk L gS = some (.gh [.slice (some ⟨g, 0, none⟩) n m] [.own e n (l.flatMap f)])) (hy : opO L y = some c) (h0 : (c.isArg && (!(yT y).contains gS && !S.contains gS)) = true) (hn : (Nat.beq (cellsV c).length dd.size && Nat.ble (o + dd.size) es) = true) (hk0 : takeL L y c = some L0) (hk : keepS L0 S = some L1)
    (hx' : repl (f y0) o (cellsV c) = f x') (z : ∀ x, (f x).length = es) (gy : geti l i = some y0) (hd : ∀ x, sdeepL (f x) = true) (hd' : sdeepL (cellsV c) = true) (hs : sfY L1) (k : K (ofL ((gS, .gh [.slice (some ⟨g, 0, none⟩) n m] [.own e n ((seti l i x').flatMap f)]) :: L1))) :
    evO P tb cns ⟨none, .store s x y, t, none⟩ (ofL L) K := by
  rw [Bool.and_eq_true] at h0
  exact qStV o x' S hx ho ht hg hy h0.2 (.inl ⟨by rw [opO_ok hy]; exact h0.1, by rw [opO_ok hy]⟩) hn hk0 hk hx' z gy hd hd' hs k
theorem qSt0 {α : Type} {f : α → List V} {l : List α} {y0 : α} {i : Int} {g off m n es : Nat} {e e2 : TypeId} {dd : TyD} {L1 : PL} (o : Nat) (x' : α) (S : List Nat) (hx : adO L x = some (.tok (.pointer (some ⟨g, off, none⟩)))) (ho : off = i.toNat * es + o) (ht : tb s = some dd)
    (hg : lk L gS = some (.gh [.slice (some ⟨g, 0, none⟩) n m] [.own e n (l.flatMap f)])) (h0 : (!S.contains gS) = true) (hn : (Nat.beq 1 dd.size && Nat.ble (o + dd.size) es) = true) (hk : keepS L S = some L1)
    (hx' : repl (f y0) o [.own e2 0 []] = f x') (z : ∀ x, (f x).length = es) (gy : geti l i = some y0) (hd : ∀ x, sdeepL (f x) = true) (hs : sfY L1) (k : K (ofL ((gS, .gh [.slice (some ⟨g, 0, none⟩) n m] [.own e n ((seti l i x').flatMap f)]) :: L1))) :
    evO P tb cns ⟨none, .store s x (.const (.slice none 0 0)), t, none⟩ (ofL L) K :=
  qStV (c := .dat 0 []) (vc := [.own e2 0 []]) (L0 := L) o x' S hx ho ht hg rfl (by rw [Bool.and_eq_true]; exact ⟨rfl, h0⟩) (.inr ⟨rfl, e2, rfl⟩) hn rfl hk hx' z gy hd rfl hs k
section
variable {α : Type} {f : α → List V} {l : List α} {e : TypeId}
theorem gLb {q b : Nat} (A C : List V) (hs : lk L b = some (.box (A ++ .own e l.length (l.flatMap f) :: C))) (hq : lk L q = none) (hsq : Nat.beq b q = false) (hn : 0 < l.length)
    (h : ∀ g m, K (ofL ((q, .gh [.slice (some ⟨g, 0, none⟩) l.length m] [.own e l.length (l.flatMap f)]) :: (b, .box (A ++ .tok (.slice (some ⟨g, 0, none⟩) l.length m) :: C)) :: L))) : Gh P nt bx (ofL L) K :=
  gh_lift (lk_ok hs) (by rw [lk_get, hq]; rfl) (fun e => by rw [e] at hsq; simp at hsq) (lift_box (A := A) (C := C)) hn (fun _ => rfl) (fun _ => rfl) fun g m => gh_k (h g m)
theorem gLb0 {q b : Nat} (A C : List V) (hs : lk L b = some (.box (A ++ .own e l.length (l.flatMap f) :: C))) (hq : lk L q = none) (hsq : Nat.beq b q = false)
    (h : ∀ u, K (ofL ((q, .gh [u] [.own e l.length (l.flatMap f)]) :: (b, .box (A ++ .tok u :: C)) :: L))) : Gh P nt bx (ofL L) K :=
  gh_lift0 (lk_ok hs) (by rw [lk_get, hq]; rfl) (fun e => by rw [e] at hsq; simp at hsq) (lift_box (A := A) (C := C)) (fun _ => rfl) (fun _ => rfl) fun u => gh_k (h u)
theorem gLs {q b : Nat} (hs : lk L b = some (.own e l.length (l.flatMap f))) (hq : lk L q = none) (hsq : Nat.beq b q = false) (hn : 0 < l.length)
    (h : ∀ g m, K (ofL ((q, .gh [.slice (some ⟨g, 0, none⟩) l.length m] [.own e l.length (l.flatMap f)]) :: (b, .tok (.slice (some ⟨g, 0, none⟩) l.length m)) :: L))) : Gh P nt bx (ofL L) K :=
  gh_lift (lk_ok hs) (by rw [lk_get, hq]; rfl) (fun e => by rw [e] at hsq; simp at hsq) lift_own hn (fun _ => rfl) (fun _ => rfl) fun g m => gh_k (h g m)
theorem gDb {q b n : Nat} {u : Value} (A C : List V) (hs : lk L b = some (.box (A ++ .tok u :: C))) (hq : lk L q = some (.gh [u] [.own e n (l.flatMap f)])) (hsq : Nat.beq b q = false) (hn : n = l.length)
    (h : K (ofL ((q, .undef) :: (b, .box (A ++ .own e l.length (l.flatMap f) :: C)) :: L))) : Gh P nt bx (ofL L) K := by
  subst hn
  exact gh_drop (lk_ok hs) (lk_ok hq) (fun e => by rw [e] at hsq; simp at hsq) (drop_box (A := A) (C := C)) rfl rfl (gh_k h)
theorem gDs {q b n : Nat} {u : Value} (hs : lk L b = some (.tok u)) (hq : lk L q = some (.gh [u] [.own e n (l.flatMap f)])) (hsq : Nat.beq b q = false) (hn : n = l.length)
    (h : K (ofL ((q, .undef) :: (b, .own e l.length (l.flatMap f)) :: L))) : Gh P nt bx (ofL L) K := by
  subst hn
  exact gh_drop (lk_ok hs) (lk_ok hq) (fun e => by rw [e] at hsq; simp at hsq) drop_own rfl rfl (gh_k h)
theorem gSb {q b : Nat} (A C : List V) (hs : lk L b = some (.box (A ++ .own e l.length (l.flatMap f) :: C))) (hq : lk L q = none) (hsq : Nat.beq b q = false) (h1 : ∀ x, oneOwn (f x) = true)
    (h : ∀ (U : Nat → Value) (us : List Value), (∀ i, i < l.length → U i = us.getD i undef) → K (ofL ((q, .gh us (l.map fun x => tokC (f x))) :: (b, .box (A ++ .own e (enumP 0 l).length ((enumP 0 l).flatMap (pE f U)) :: C)) :: L))) : Gh P nt bx (ofL L) K :=
  gh_split (lk_ok hs) (by rw [lk_get, hq]; rfl) (fun e => by rw [e] at hsq; simp at hsq) (split_box h1 (A := A) (C := C)) (fun _ => rfl) (fun _ => rfl) fun U us _ hU => gh_k (h U us hU)
theorem gJb [BEq α] [LawfulBEq α] {q b n : Nat} {cs : List V} {us : List Value} {U : Nat → Value} (A C : List V) (L' : List (Nat × α ⊕ α)) (hs : lk L b = some (.box (A ++ .own e n cs :: C))) (hc : V.own e n cs = .own e L'.length (L'.flatMap (mE f U))) (hq : lk L q = some (.gh us (l.map fun x => tokC (f x)))) (hsq : Nat.beq b q = false) (h1 : ∀ x, oneOwn (f x) = true) (hU : ∀ i, i < l.length → U i = us.getD i undef) (hok : okJ l L' [] = true)
    (h : K (ofL ((q, .undef) :: (b, .box (A ++ .own e (L'.map getM).length ((L'.map getM).flatMap f) :: C)) :: L))) : Gh P nt bx (ofL L) K :=
  gh_join (lk_ok (by rw [hs, hc])) (lk_ok hq) rfl (fun e => by rw [e] at hsq; simp at hsq) (join_box h1 (A := A) (C := C)) hU hok rfl rfl (gh_k h)
variable {β : Type} {f2 : β → List V} {l2 : List β} {e2 : TypeId} {n : Nat} {u1 : Value} {y0 : α} {i : Int} {es : Nat}
theorem gLg (o : Nat) (hs : lk L gU = some (.gh [u1] [.own e n (l.flatMap f)])) (hq : lk L gS = none) (z : ∀ x, (f x).length = es) (gy : geti l i = some y0) (ho : Nat.ble (o + 1) es = true) (hv : (f y0)[o]? = some (.own e2 l2.length (l2.flatMap f2))) (hn : 0 < l2.length)
    (h : ∀ g m, K (ofL ((gS, .gh [.slice (some ⟨g, 0, none⟩) l2.length m] [.own e2 l2.length (l2.flatMap f2)]) :: (gU, .gh [u1] [.own e n ((l.flatMap f).set (i.toNat * es + o) (.tok (.slice (some ⟨g, 0, none⟩) l2.length m)))]) :: L))) : Gh P nt bx (ofL L) K := by
  have hk : (l.flatMap f)[i.toNat * es + o]? = some (.own e2 l2.length (l2.flatMap f2)) := by
    obtain ⟨g1, g2, g3⟩ := geti_some gy
    have e1 : (l.flatMap f).drop (i.toNat * es) = f y0 ++ (l.flatMap f).drop ((i.toNat + 1) * es) := by
      rw [flat_drop z, flat_drop z]
      obtain ⟨hlt, he⟩ := List.getElem?_eq_some_iff.1 g3
      rw [List.drop_eq_getElem_cons hlt, he, List.flatMap_cons]
    rw [← List.getElem?_drop, e1, List.getElem?_append_left (by have := z y0; have := nb ho; omega), hv]
  exact gh_lift (lk_ok hs) (by rw [lk_get, hq]; rfl) (by decide) (lift_gh hk) hn (fun _ => rfl) (fun _ => rfl) fun g m => gh_k (h g m)
theorem gDg {u2 : Value} {n2 : Nat} (o : Nat) (x' : α) (hs : lk L gU = some (.gh [u1] [.own e n ((l.flatMap f).set (i.toNat * es + o) (.tok u2))])) (hq : lk L gS = some (.gh [u2] [.own e2 n2 (l2.flatMap f2)])) (z : ∀ x, (f x).length = es) (gy : geti l i = some y0) (ho : Nat.ble (o + 1) es = true) (hn : n2 = l2.length) (hx : repl (f y0) o [.own e2 l2.length (l2.flatMap f2)] = f x')
    (h : K (ofL ((gS, .undef) :: (gU, .gh [u1] [.own e n ((seti l i x').flatMap f)]) :: L))) : Gh P nt bx (ofL L) K := by
  subst hn
  obtain ⟨_, g2⟩ := get_at (dd := .sc (.bool false)) z gy (o := o) (nb ho) (Nat.zero_lt_one)
  have hlt : i.toNat * es + o < (l.flatMap f).length := g2
  have hk : ((l.flatMap f).set (i.toNat * es + o) (.tok u2))[i.toNat * es + o]? = some (.tok u2) := List.getElem?_set_self hlt
  refine gh_drop (lk_ok hs) (lk_ok hq) (by decide) (drop_gh hk) rfl rfl (gh_k ?_)
  have e1 : ((l.flatMap f).set (i.toNat * es + o) (.tok u2)).set (i.toNat * es + o) (.own e2 l2.length (l2.flatMap f2)) = (seti l i x').flatMap f := by
    rw [List.set_set, ← repl_at z gy (vs := [.own e2 l2.length (l2.flatMap f2)]) (nb ho) hx]
    rw [List.set_eq_take_append_cons_drop, if_pos hlt]
    simp [repl]
  rw [e1]
  exact h
end
theorem qP {d : Nat} {f : FuncId} {args : Array Operand} {ts : Array TypeId} {xs : List Operand} {s : Nat} {as cs cs' : List V} {r : V} (ha : args.toList = x :: xs) (hx : adO L x = some (.cref s 0)) (hs : lk L s = some (.box cs)) (hpl : cs.all plainC = true) (he : erA (ofL L) xs as) (hp : PtrAt P f cs as cs' r) (k : K (ofL ((d, r) :: (s, .box cs') :: L))) (hc : cns.contains d = false := by rfl) :
    evO P tb cns ⟨some d, .call { callee := .value (.func f), args := args, argTypes := ts }, t, none⟩ (ofL L) K := ev_callP (cnF hc) ha (adO_ok hx) (lk_ok hs) hpl he hp k
def offS (S : List Nat) : Operand → Bool
  | .tmp p => S.contains p
  | .const (.int _ _) => true
  | .const (.bool _) => true
  | .const (.string _) => true
  | _ => false
theorem qPo {d : Nat} {f : FuncId} {args : Array Operand} {ts : Array TypeId} {xs : List Operand} {p : Nat} {as cs cs' : List V} {L1 : PL} (S : List Nat) (ha : args.toList = .tmp p :: xs) (hs : lk L p = some (.box cs)) (hpl : cs.all plainC = false) (hx : (!S.contains p && xs.all (offS S)) = true) (he : erA (ofL L) xs as) (hd : deepL cs = true) (hp : PtrO P f cs as cs') (hk : keepS L S = some L1) (hsf : sfY L1) (k : K (ofL ((d, .tup []) :: (p, .box cs') :: L1))) (hc : cns.contains d = false := by rfl) :
    evO P tb cns ⟨some d, .call { callee := .value (.func f), args := args, argTypes := ts }, t, none⟩ (ofL L) K := by
  obtain ⟨h1, h2⟩ := erA_ok he
  subst h2
  rw [Bool.and_eq_true, Bool.not_eq_true'] at hx
  show callF P cns _ f args.toList (ofL L) K
  unfold callF
  rw [if_neg (by simpa using hc)]
  refine .inr (.inr ⟨p, xs, cs, cs', offL L (p :: S), ha, lk_ok hs, hpl, hd, ?_, hp, ?_, fun q hq => ?_, ?_⟩)
  · rw [List.all_eq_true] at h1 ⊢
    intro x hxm
    rw [Bool.and_eq_true]
    refine ⟨h1 x hxm, ?_⟩
    have := List.all_eq_true.1 hx.2 x hxm
    unfold offS at this
    split at this
    · rename_i q
      simp only [offD, Bool.not_eq_true']
      cases hc : (offL L (p :: S)).contains q with
      | false => rfl
      | true => exact absurd (List.mem_cons_of_mem _ (by simpa using this)) (offL_in.1 hc).2
    · rfl
    · rfl
    · rfl
    · cases this
  · cases hc : (offL L (p :: S)).contains p with
    | false => rfl
    | true => exact absurd (List.mem_cons_self) (offL_in.1 hc).2
  · by_cases hD : (offL L (p :: S)).contains q = true
    · exact .inl hD
    · right
      by_cases hm : q ∈ L.map (·.1)
      · have hS : q ∈ S := Classical.byContradiction fun h => hD (offL_in.2 ⟨hm, fun h' => (List.mem_cons.1 h').elim hq h⟩)
        obtain ⟨L', k1, k2⟩ := ob_some hk
        obtain ⟨_, k2⟩ := if_some k2
        cases k2
        rw [lk_ok ((keepL_at k1).1 q hS)]
        exact sfY_of hsf q
      · rw [lk_none hm]; rfl
  · have e4 : upd (kill (offL L (p :: S)) (ofL L)) p (.box cs') = ofL ((p, .box cs') :: L1) := by
      rw [ofL_cons]
      funext q
      by_cases hq : q = p
      · subst hq; rw [upd_same, upd_same]
      · rw [upd_ne _ _ hq, upd_ne _ _ hq]; exact keep_kill hk hq
    show K (upd (upd (kill (offL L (p :: S)) (ofL L)) p (.box cs')) d (.tup []))
    rw [e4]
    exact k
theorem qCk {d : Nat} {f : FuncId} {args : Array Operand} {ts : Array TypeId} {n : Nat} {as : List V} {r : V} (ha : args.toList = [x]) (hx : opO L x = some (.arg n as)) (hs : SoundAt P f [.arg n as] r) (k : K (ofL ((d, r) :: L))) (hc : cns.contains d = false := by rfl) : evO P tb cns ⟨some d, .call { callee := .value (.func f), args := args, argTypes := ts }, t, none⟩ (ofL L) K := by
  show callF P cns _ f args.toList (ofL L) K
  unfold callF
  rw [if_neg (by simpa using hc)]
  refine .inl ⟨?_, r, .inr (.inl ?_), k⟩
  · rw [ha, List.all_cons, opO_ok hx]; rfl
  · rw [ha, List.map_cons, opO_ok hx]; exact hs
theorem qCi {d : Nat} {f : FuncId} {args : Array Operand} {ts : Array TypeId} {a r : V} (ha : args.toList = [x]) (hx : opO L x = some a) (hi : a.isArg = true) (hs : SoundAt P f [a] r) (k : K (ofL ((d, r) :: L))) (hc : cns.contains d = false := by rfl) : evO P tb cns ⟨some d, .call { callee := .value (.func f), args := args, argTypes := ts }, t, none⟩ (ofL L) K := by
  show callF P cns _ f args.toList (ofL L) K
  unfold callF
  rw [if_neg (by simpa using hc)]
  refine .inl ⟨?_, r, .inr (.inr ?_), k⟩
  · rw [ha, List.all_cons, opO_ok hx, hi]; rfl
  · rw [ha, List.map_cons, opO_ok hx]; exact hs
theorem qN {d : Nat} {f : FuncId} {args : Array Operand} {ts : Array TypeId} {n : Nat} {as cs : List V} (hc : cns.contains d = true) (hb : nbL L d = true) (ha : args.toList = [x]) (hx : opO L x = some (.arg n as)) (hp : NewAt P f [.arg n as] cs) (k : K (ofL ((d, .box cs) :: L))) :
    evO P tb cns ⟨some d, .call { callee := .value (.func f), args := args, argTypes := ts }, t, none⟩ (ofL L) K := by
  refine ev_callN hc (nbL_ok hb) ?_ ?_ hp k
  · rw [ha, List.all_cons, opO_ok hx]; rfl
  · rw [ha, List.map_cons, opO_ok hx]; rfl
theorem sound_litA (htb : TbOk P tb) {f : FuncId} {nt : Nat} {bx : List Nat} {rs : List ResultVar} {l : LC} {args : List V} {r : V} (hl : Lit P f nt bx rs l) (hlen : args.length ≤ nt) (hargs : args.all argAbleA = true) (hr : deepT r = true) (h : LS P nt bx l (initS (args.map argV)) (retQ tb rs r)) : SoundAt P f args r := by
  obtain ⟨⟨fn, c, h1, h2, h3, rfl, rfl, h6, h7⟩, hn, hL⟩ := hl
  exact sound_arg htb h1 h2 h3 bx hlen hargs hr hn (h c h6 h7 hL)
end
def inlM {α : Type} (x : List (Nat × α)) : List (Nat × α ⊕ α) := x.map Sum.inl
def inrM {α : Type} (x : List α) : List (Nat × α ⊕ α) := x.map Sum.inr
theorem l_inl {α : Type} {x : List (Nat × α)} : x.length = (inlM x).length := (List.length_map _).symm
theorem l_inr {α : Type} {x : List α} : x.length = (inrM x).length := (List.length_map _).symm
theorem c_inl {α : Type} {f : α → List V} {U : Nat → Value} {x : List (Nat × α)} : x.flatMap (pE f U) = (inlM x).flatMap (mE f U) := by unfold inlM; rw [List.flatMap_map]; rfl
theorem c_inr {α : Type} {f : α → List V} {U : Nat → Value} {x : List α} : x.flatMap f = (inrM x).flatMap (mE f U) := by unfold inrM; rw [List.flatMap_map]; rfl
theorem own_inM {α : Type} {f : α → List V} {U : Nat → Value} {e : TypeId} {x : List (Nat × α)} : V.own e x.length (x.flatMap (pE f U)) = .own e (inlM x).length ((inlM x).flatMap (mE f U)) := by rw [← l_inl, ← c_inl]
theorem qA2 {P : Program} {tb : Tb} {cns : List Nat} {L : PL} {K : PS → Prop} {s d t : Nat} {α : Type} (f : α → List V) (l m : List α) {n0 m0 es p q : Nat} {e : TypeId} {cs0 ds : List V} {c : V} {L2 : PL} (h : appO tb L s p q = some (n0, cs0, es, m0, ds, c, L2)) (he : lk L p = some (.own e n0 cs0)) (hd : ds.length = m0 * es) (h1 : n0 = l.length) (h2 : cs0 = l.flatMap f) (h3 : m0 = m.length) (ha : appY c = m.flatMap f) (hl : l.length + m.length ≤ lim)
    (k : K (ofL ((d, .own e (l ++ m).length ((l ++ m).flatMap f)) :: L2))) : evO P tb cns ⟨some d, .call { callee := .builtin .append, args := #[.tmp p, .tmp q], argTypes := #[s, s] }, t, none⟩ (ofL L) K := by
  subst h1 h2 h3
  exact qA f l m h he hd ha hl k
theorem dcn : deepL [] = true := rfl
theorem dcc {c : V} {cs : List V} (h : deep c = true) (k : deepL cs = true) : deepL (c :: cs) = true := by rw [deepL, h, k]; rfl
theorem dcf {α : Type} {f : α → List V} (h : ∀ x, deepL (f x) = true) (l : List α) : deepL (l.flatMap f) = true := deepL_all.2 fun c hc => by
  obtain ⟨a, _, hc⟩ := List.mem_flatMap.1 hc
  exact deepL_all.1 (h a) c hc
theorem dco {α : Type} {f : α → List V} (h : ∀ x, deepL (f x) = true) (e : TypeId) (l : List α) : deep (.own e l.length (l.flatMap f)) = true := by rw [deep]; exact dcf h l
theorem sgh {us : List Value} {e : TypeId} {n k : Nat} {cs : List V} {u : Value} (h : sdeepL cs = true) : safeV (.gh us [.own e n (cs.set k (.tok u))]) = true := by
  show sdeepL [_] = true
  rw [sdeepL, sdeep, Bool.and_eq_true]
  refine ⟨sdeepL_all.2 fun c hc => ?_, rfl⟩
  rcases List.mem_or_eq_of_mem_set hc with h1 | h1
  · exact sdeepL_all.1 h c h1
  · subst h1; rfl
theorem dag {cs : List V} (h : deepL cs = true) : deep (.agg cs) = true := by rw [deep]; exact h
theorem argdL_all : ∀ {cs : List V}, argdL cs = true ↔ ∀ c ∈ cs, argd c = true
  | [] => by simp [argdL]
  | c :: cs => by rw [argdL, Bool.and_eq_true, argdL_all (cs := cs)]; simp
theorem acc {c : V} {cs : List V} (h : argd c = true) (k : argdL cs = true) : argdL (c :: cs) = true := by rw [argdL, h, k]; rfl
theorem acf {α : Type} {f : α → List V} (h : ∀ x, argdL (f x) = true) (l : List α) : argdL (l.flatMap f) = true := argdL_all.2 fun c hc => by
  obtain ⟨a, _, hc⟩ := List.mem_flatMap.1 hc
  exact argdL_all.1 (h a) c hc
theorem aca {α : Type} {f : α → List V} (h : ∀ x, argdL (f x) = true) (l : List α) : argd (.arg l.length (l.flatMap f)) = true := by rw [argd]; exact acf h l
theorem sO {c : V} (h : deep c = true) : safeC c = true := sd_of h
theorem sA {c : V} (h : argd c = true) : safeC c = true := sd_arg h
theorem sOA {α : Type} {f : α → List V} (h : ∀ x, argdL (f x) = true) (e : TypeId) (l : List α) : safeC (.own e l.length (l.flatMap f)) = true := by rw [safeC, sdeep]; exact sdF (fun x => sdA (h x)) l
theorem snc {c : V} {cs : List V} (h : safeC c = true) (k : cs.all safeC = true) : (c :: cs).all safeC = true := by rw [List.all_cons, h, k]; rfl
theorem bcc {c : V} {cs : List V} (h : argAble c = true) (k : argAbleL cs = true) : argAbleL (c :: cs) = true := by rw [argAbleL, h, k]; rfl
theorem vag {cs cs' : List V} (h : argVL cs = cs') : argV (.agg cs) = .agg cs' := by rw [argV, h]
theorem aall {c : V} {cs : List V} (h : argAbleA c = true) (k : cs.all argAbleA = true) : (c :: cs).all argAbleA = true := by rw [List.all_cons, h, k]; rfl
theorem mvv {c c' : V} {cs cs' : List V} (h : argV c = c') (k : cs.map argV = cs') : (c :: cs).map argV = c' :: cs' := by rw [List.map_cons, h, k]
theorem vcc {c c' : V} {cs cs' : List V} (h : argV c = c') (k : argVL cs = cs') : argVL (c :: cs) = c' :: cs' := by rw [argVL, h, k]
theorem argVL_app : ∀ (a b : List V), argVL (a ++ b) = argVL a ++ argVL b
  | [], _ => rfl
  | c :: a, b => by rw [List.cons_append, argVL, argVL, argVL_app a b, List.cons_append]
theorem argVL_flat {α : Type} {f g : α → List V} (h : ∀ x, argVL (f x) = g x) : ∀ l : List α, argVL (l.flatMap f) = l.flatMap g
  | [] => rfl
  | x :: l => by rw [List.flatMap_cons, List.flatMap_cons, argVL_app, h, argVL_flat h l]
theorem argD {α : Type} {f g : α → List V} (h : ∀ x, argVL (f x) = g x) (l : List α) : argV (.dat l.length (l.flatMap f)) = .arg l.length (l.flatMap g) := by rw [argV, argVL_flat h]
theorem able_app : ∀ {a b : List V}, argAbleL a = true → argAbleL b = true → argAbleL (a ++ b) = true
  | [], _, _, h => h
  | c :: a, b, h, k => by
    rw [argAbleL, Bool.and_eq_true] at h
    rw [List.cons_append, argAbleL, h.1, able_app h.2 k]; rfl
theorem able_flat {α : Type} {f : α → List V} (h : ∀ x, argAbleL (f x) = true) : ∀ l : List α, argAbleL (l.flatMap f) = true
  | [] => rfl
  | x :: l => by rw [List.flatMap_cons]; exact able_app (h x) (able_flat h l)
theorem ableD {α : Type} {f : α → List V} (h : ∀ x, argAbleL (f x) = true) (l : List α) : argAble (.dat l.length (l.flatMap f)) = true := able_flat h l
end Go.Proofs.YtkclaipnejgloaaDoor

namespace Go.Proofs.YtkclaipnejgloaaDoor
open Go.RowKit
set_option linter.unusedVariables false
mutual
def frz : V → V
  | .own _ n cs => .arg n (frzL cs)
  | .dat n cs => .dat n cs
  | .arg n cs => .arg n cs
  | .pin u n cs => .pin u n cs
  | .int k n => .int k n
  | .bool b => .bool b
  | .str s => .str s
  | .fn f => .fn f
  | .tok u => .tok u
  | _ => .undef
def frzL : List V → List V
  | [] => []
  | c :: cs => frz c :: frzL cs
end
theorem frzL_nil {cs : List V} (h : cs = []) : frzL cs = [] := by subst h; rfl
section
variable {P : Program} {w : World} {St St' : Nat → Nat → Prop}
mutual
theorem Ow.frz (hs : ∀ b o, St b o → St' b o) : ∀ (c : V) {v : Value} {bs : List Nat}, Ow P w St c v bs → c.isCell = true → (∀ g ∈ bs, ∀ o, St' g o) → Rd w St' (frz c) v
  | .int _ _, _, _, h, _, _ => h.2
  | .bool _, _, _, h, _, _ => h.2
  | .str _, _, _, h, _, _ => h.2
  | .dat n cs, _, _, h, _, _ => Rd.mono hs (fun _ _ _ => rfl) (.dat n cs) h.2
  | .arg n cs, _, _, h, _, _ => Rd.mono hs (fun _ _ _ => rfl) (.arg n cs) h.2
  | .pin u n cs, _, _, h, _, _ => Rd.mono hs (fun _ _ _ => rfl) (.pin u n cs) h.2
  | .own e n cs, v, bs, ⟨hn, xs, bs', h1, h2, h3, h4, h5⟩, _, hg => by
    have hl := h1.1
    rcases h1.2 with ⟨rfl, rfl⟩ | ⟨g, cap, cur, rfl, hg1, hh, hc, hm, hsz, hx⟩
    · exact ⟨lim_max hn, none, 0, rfl, Nat.le_refl _, fun h => absurd h (by omega), fun hz => frzL_nil (h5 hz)⟩
    · have hgo := hg g (by rw [h3]; simp [Value.ownBlock])
      refine ⟨lim_max hn, _, cap, rfl, hc, fun _ => ⟨g, 0, rfl, fun _ => hgo, ?_⟩, fun hz => frzL_nil (h5 hz)⟩
      refine OwRow.frz hs cs 0 h2 hgo (fun j u hu => ?_) (fun g' hg' => hg g' (by rw [h3]; exact List.mem_append_right _ hg'))
      have hj : j < n * csz P e := by
        rw [← hl]
        rcases Nat.lt_or_ge j xs.length with h | h
        · exact h
        · rw [List.getElem?_eq_none h] at hu; cases hu
      rw [Nat.zero_add]
      simp only [World.cell?, hh]
      rw [← hx, List.getElem?_take, if_pos hj] at hu
      simpa using hu
  | .agg _, _, _, _, h, _ => by cases h
  | .tup _, _, _, _, h, _ => by cases h
  | .box _, _, _, h, _, _ => h.elim
  | .uni _ _ _, _, _, h, _, _ => h.elim
  | .same _, _, _, h, _, _ => h.elim
  | .cref _ _, _, _, h, _, _ => h.elim
  | .adr _ _, _, _, h, _, _ => h.elim
  | .gh _ _, _, _, h, _, _ => h.elim
  | .fn _, _, _, h, _, _ => h.2
  | .tok _, _, _, h, _, _ => h.2
  | .undef, _, _, h, _, _ => h.elim
theorem OwRow.frz (hs : ∀ b o, St b o → St' b o) {g : Nat} : ∀ (cs : List V) (off : Nat) {us : List Value} {bs : List Nat}, OwRow P w St cs us bs → (∀ o, St' g o) → (∀ (j : Nat) (u : Value), us[j]? = some u → w.cell? ⟨g, off + j, none⟩ = some u) → (∀ g ∈ bs, ∀ o, St' g o) → RdRow w St' g off (frzL cs)
  | [], _, _, _, _, _, _, _ => trivial
  | c :: cs, off, _, _, ⟨u, us', b1, b2, e1, e2, hc, h1, h2⟩, hgo, hu, hg => by
    have h0 := hu 0 u (by rw [e1]; rfl)
    refine ⟨⟨hgo off, u, by simpa using h0, Ow.frz hs c h1 hc (fun g' hg' => hg g' (by rw [e2]; exact List.mem_append_left _ hg'))⟩, OwRow.frz hs cs (off + 1) h2 hgo (fun j x hx => ?_) (fun g' hg' => hg g' (by rw [e2]; exact List.mem_append_right _ hg'))⟩
    have := hu (j + 1) x (by rw [e1]; simpa using hx)
    rw [show off + 1 + j = off + (j + 1) by omega]; exact this
end
end
def FrzP (P : Program) (c c' : V) : Prop :=
  ∀ w St (t : Nat → Value) v bs, SlotR P w St t c v bs → bs.Nodup → ∃ fb b1 : List Nat, (∀ g ∈ fb, g ∈ bs) ∧ (∀ g ∈ b1, g ∈ bs) ∧ b1.Nodup ∧ SlotR P w (fun b o => St b o ∨ b ∈ fb) t c' v b1
section
variable {P : Program} {w : World} {St St' : Nat → Nat → Prop}
theorem frz_cell {c : V} (h : c.isCell = true) : (frz c).isCell = true := by cases c <;> first | rfl | cases h
theorem ow_frz {c : V} {v : Value} (hc : c.isCell = true) (h : Rd w St (frz c) v) : Ow P w St (frz c) v [] := by cases c <;> first | exact ⟨rfl, h⟩ | cases hc
theorem OwRow.frzI (hs : ∀ b o, St b o → St' b o) : ∀ (cs : List V) {us : List Value} {bs : List Nat}, OwRow P w St cs us bs → (∀ g ∈ bs, ∀ o, St' g o) → OwRow P w St' (frzL cs) us []
  | [], _, _, h, _ => ⟨h.1, rfl⟩
  | c :: cs, _, _, ⟨u, us', b1, b2, e1, e2, hc, h1, h2⟩, hg =>
    ⟨u, us', [], [], e1, rfl, frz_cell hc, ow_frz hc (Ow.frz hs c h1 hc (fun g hg' => hg g (by rw [e2]; exact List.mem_append_left _ hg'))), OwRow.frzI hs cs h2 (fun g hg' => hg g (by rw [e2]; exact List.mem_append_right _ hg'))⟩
theorem Ow.frzI {e : TypeId} {n : Nat} {cs : List V} {v : Value} {bs : List Nat} (h : Ow P w St (.own e n cs) v bs) (hn : bs.Nodup) : ∃ fb b1 : List Nat, (∀ g ∈ fb, g ∈ bs) ∧ (∀ g ∈ b1, g ∈ bs) ∧ b1.Nodup ∧ (∀ g ∈ b1, g ∉ fb) ∧ Ow P w (fun b o => St b o ∨ b ∈ fb) (.own e n (frzL cs)) v b1 := by
  obtain ⟨hl, xs, bs', h1, h2, h3, h4, h5⟩ := h
  rw [h3] at hn
  have hn2 := List.nodup_append.1 hn
  have hap : ∀ g ∈ v.ownBlock.toList, g ∉ bs' := fun g hg hg2 => hn2.2.2 g hg g hg2 rfl
  refine ⟨bs', v.ownBlock.toList, fun g hg => by rw [h3]; exact List.mem_append_right _ hg, fun g hg => by rw [h3]; exact List.mem_append_left _ hg, hn2.1, hap, hl, xs, [], ?_, OwRow.frzI (fun _ _ h => .inl h) cs h2 (fun g hg o => .inr hg), by simp, fun g hg o => ?_, fun hz => frzL_nil (h5 hz)⟩
  · refine ⟨h1.1, ?_⟩
    rcases h1.2 with h | ⟨g, cap, cur, rfl, hg, hh, r⟩
    · exact .inl h
    · exact .inr ⟨g, cap, cur, rfl, hg, hh, r⟩
  · refine ⟨fun h => h.elim (fun h => (h4 g hg o).1 h) (fun hf => absurd hf (hap g (by rw [hg]; simp))), fun h => .inl ((h4 g hg o).2 h)⟩
end
section
variable {P : Program} {nt : Nat} {bx : List Nat} {σ : PS} {K : PS → Prop}
theorem frz_own {e : TypeId} {n : Nat} {cs : List V} : FrzP P (.own e n cs) (.arg n (frzL cs)) := fun w St t v bs h hn =>
  ⟨bs, [], fun _ h => h, fun _ h => (by cases h), List.nodup_nil, ⟨rfl, Ow.frz (fun _ _ h => .inl h) (.own e n cs) h rfl (fun g hg o => .inr hg)⟩⟩
theorem frz_box {e : TypeId} {n : Nat} {cs A C : List V} : FrzP P (.box (A ++ .own e n cs :: C)) (.box (A ++ .arg n (frzL cs) :: C)) := by
  rintro w St t v bs ⟨g, T, bs', arr, e1, e2, hr, rfl, hst⟩ hn
  obtain ⟨us1, us2, p1, p2, eu, eb, r1, r2⟩ := hr.app
  obtain ⟨u, us3, p3, p4, eu2, eb2, hc, r3, r4⟩ := r2
  subst eb eb2
  have hn1 := List.nodup_cons.1 hn
  have hn2 := List.nodup_append.1 hn1.2
  have hn3 := List.nodup_append.1 hn2.2.1
  have keep : ∀ p : List Nat, (∀ x ∈ p, x ∉ p3) → ∀ x ∈ p, w.heap[x]? = w.heap[x]? ∧ ∀ o, (St x o ∨ x ∈ p3) ↔ St x o := fun p hp x hx => ⟨rfl, fun o => ⟨fun h => h.elim id (fun hf => absurd hf (hp x hx)), .inl⟩⟩
  have m1 := OwRow.mono (St' := fun b o => St b o ∨ b ∈ p3) (fun _ _ h => .inl h) (fun _ _ _ => rfl) _ r1 (keep p1 fun x hx hx3 => hn2.2.2 x hx x (List.mem_append_left _ hx3) rfl)
  have m4 := OwRow.mono (St' := fun b o => St b o ∨ b ∈ p3) (fun _ _ h => .inl h) (fun _ _ _ => rfl) _ r4 (keep p4 fun x hx hx3 => hn3.2.2 x hx3 x hx rfl)
  have hz : Ow P w (fun b o => St b o ∨ b ∈ p3) (.arg n (frzL cs)) u [] := ⟨rfl, Ow.frz (fun _ _ h => .inl h) (.own e n cs) r3 rfl (fun g hg o => .inr hg)⟩
  refine ⟨p3, g :: (p1 ++ p4), ?_, ?_, ?_, g, T, p1 ++ p4, arr, e1, e2, ?_, rfl, fun o ho => ?_⟩
  · intro x hx
    exact List.mem_cons_of_mem _ (List.mem_append_right _ (List.mem_append_left _ hx))
  · intro x hx
    simp only [List.mem_cons, List.mem_append] at hx ⊢
    rcases hx with h | h | h
    · exact .inl h
    · exact .inr (.inl h)
    · exact .inr (.inr (.inr h))
  · refine List.nodup_cons.2 ⟨fun hm => hn1.1 ?_, List.nodup_append.2 ⟨hn2.1, hn3.2.1, fun a ha b hb => hn2.2.2 a ha b (List.mem_append_right _ hb)⟩⟩
    simp only [List.mem_append] at hm ⊢
    rcases hm with h | h
    · exact .inl h
    · exact .inr (.inr h)
  · rw [eu, eu2]
    exact OwRow.join m1 (show OwRow P w _ (.arg n (frzL cs) :: C) (u :: us3) p4 from ⟨u, us3, [], p4, rfl, by simp, rfl, hz, m4⟩)
  · rcases ho with ho | ho
    · exact hst o ho
    · exact hn1.1 (List.mem_append_right _ (List.mem_append_left _ ho))
theorem frzI_own {e : TypeId} {n : Nat} {cs : List V} : FrzP P (.own e n cs) (.own e n (frzL cs)) := fun w St t v bs h hn => by
  obtain ⟨fb, b1, q1, q2, q3, q4, q5⟩ := Ow.frzI (show Ow P w St (.own e n cs) v bs from h) hn
  exact ⟨fb, b1, q1, q2, q3, q5⟩
theorem frzI_box {e : TypeId} {n : Nat} {cs A C : List V} : FrzP P (.box (A ++ .own e n cs :: C)) (.box (A ++ .own e n (frzL cs) :: C)) := by
  rintro w St t v bs ⟨g, T, bs', arr, e1, e2, hr, rfl, hst⟩ hn
  obtain ⟨us1, us2, p1, p2, eu, eb, r1, r2⟩ := hr.app
  obtain ⟨u, us3, p3, p4, eu2, eb2, hc, r3, r4⟩ := r2
  subst eb eb2
  have hn1 := List.nodup_cons.1 hn
  have hn2 := List.nodup_append.1 hn1.2
  have hn3 := List.nodup_append.1 hn2.2.1
  obtain ⟨fb, b1, q1, q2, q3, q4, q5⟩ := Ow.frzI r3 hn3.1
  have keep : ∀ p : List Nat, (∀ x ∈ p, x ∉ fb) → ∀ x ∈ p, w.heap[x]? = w.heap[x]? ∧ ∀ o, (St x o ∨ x ∈ fb) ↔ St x o := fun p hp x hx => ⟨rfl, fun o => ⟨fun h => h.elim id (fun hf => absurd hf (hp x hx)), .inl⟩⟩
  have m1 := OwRow.mono (St' := fun b o => St b o ∨ b ∈ fb) (fun _ _ h => .inl h) (fun _ _ _ => rfl) _ r1 (keep p1 fun x hx hx3 => hn2.2.2 x hx x (List.mem_append_left _ (q1 x hx3)) rfl)
  have m4 := OwRow.mono (St' := fun b o => St b o ∨ b ∈ fb) (fun _ _ h => .inl h) (fun _ _ _ => rfl) _ r4 (keep p4 fun x hx hx3 => hn3.2.2 x (q1 x hx3) x hx rfl)
  refine ⟨fb, g :: (p1 ++ (b1 ++ p4)), ?_, ?_, ?_, g, T, p1 ++ (b1 ++ p4), arr, e1, e2, ?_, rfl, fun o ho => ?_⟩
  · intro x hx
    exact List.mem_cons_of_mem _ (List.mem_append_right _ (List.mem_append_left _ (q1 x hx)))
  · intro x hx
    simp only [List.mem_cons, List.mem_append] at hx ⊢
    rcases hx with h | h | h | h
    · exact .inl h
    · exact .inr (.inl h)
    · exact .inr (.inr (.inl (q2 x h)))
    · exact .inr (.inr (.inr h))
  · refine List.nodup_cons.2 ⟨fun hm => hn1.1 ?_, List.nodup_append.2 ⟨hn2.1, List.nodup_append.2 ⟨q3, hn3.2.1, fun a ha b hb => hn3.2.2 a (q2 a ha) b hb⟩, fun a ha b hb e => ?_⟩⟩
    · simp only [List.mem_append] at hm ⊢
      rcases hm with h | h | h
      · exact .inl h
      · exact .inr (.inl (q2 _ h))
      · exact .inr (.inr h)
    · rcases List.mem_append.1 hb with hb | hb
      · exact hn2.2.2 a ha b (List.mem_append_left _ (q2 b hb)) e
      · exact hn2.2.2 a ha b (List.mem_append_right _ hb) e
  · rw [eu, eu2]
    exact OwRow.join m1 (show OwRow P w _ (.own e n (frzL cs) :: C) (u :: us3) (b1 ++ p4) from ⟨u, us3, b1, p4, rfl, rfl, rfl, q5, m4⟩)
  · rcases ho with ho | ho
    · exact hst o ho
    · exact hn1.1 (List.mem_append_right _ (List.mem_append_left _ (q1 g ho)))
theorem gh_frz {s : Nat} {c c' : V} (hs : σ s = c) (F : FrzP P c c') (hb : (bxOf c').isSome = (bxOf c).isSome) (hrf : refOf c' = none)
    (h : Gh P nt bx (upd σ s c') K) : Gh P nt bx σ K := by
  rintro base St0 w0 a w ⟨St, B, hS, r1, r2, r3⟩
  have h1 := hS.slot s
  rw [hs] at h1
  obtain ⟨fb, b1, q1, q2, q3, q4⟩ := F w St (tm a) (tm a s) (B s) h1 (hS.nodup s)
  have hB : ∀ r, r ≠ s → upd B s b1 r = B r := fun r e => upd_ne _ _ e
  have hσ : ∀ r, r ≠ s → upd σ s c' r = σ r := fun r e => upd_ne _ _ e
  have hin : ∀ r, ∀ g ∈ upd B s b1 r, g ∈ B r := fun r g hg => by
    by_cases e : r = s
    · subst e; rw [upd_same] at hg; exact q2 g hg
    · rw [hB r e] at hg; exact hg
  refine h base St0 w0 a w ⟨fun b o => St b o ∨ b ∈ fb, upd B s b1, { hS with
    slot := fun r => ?_
    boxes := fun r cs e => ?_
    crefs := fun r b e => ?_
    nodup := fun r => ?_
    apart := fun r t hrt g hg hg2 => hS.apart r t hrt g (hin r g hg) (hin t g hg2)
    hapart := fun r g hg => hS.hapart r g (hin r g hg)
    range := fun r g hg => hS.range r g (hin r g hg)
    st := fun b o hbo => hbo.elim (hS.st b o) (fun hf => (hS.range s b (q1 b hf)).2)
    gl := hS.gl.of (fun b hb o => .inl (hb o)) (fun _ _ _ => rfl) }, r1, fun b o hbb => ⟨fun hbo => hbo.elim (r2 b o hbb).1 (fun hf => absurd hbb (hS.range s b (q1 b hf)).1), fun h0 => .inl ((r2 b o hbb).2 h0)⟩, r3⟩
  · by_cases e : r = s
    · subst e; rw [upd_same, upd_same]; exact q4
    · rw [hσ r e, hB r e]
      exact (hS.slot r).mono (fun _ _ h => .inl h) (fun _ _ _ => rfl) (fun g hg => ⟨rfl, fun o => ⟨fun h => h.elim id (fun hf => absurd (q1 g hf) (hS.apart r s e g hg)), .inl⟩⟩) (fun _ _ => rfl)
  · by_cases e1 : r = s
    · subst e1
      rw [upd_same] at e
      rw [e] at hb
      cases hx : bxOf c with
      | none => rw [hx] at hb; cases hb
      | some ds => exact hS.boxes r ds (by rw [hs]; exact hx)
    · rw [hσ r e1] at e; exact hS.boxes r cs e
  · by_cases e1 : r = s
    · subst e1; rw [upd_same, hrf] at e; cases e
    · rw [hσ r e1] at e
      obtain ⟨cs, hc⟩ := hS.crefs r b e
      by_cases e2 : b = s
      · subst e2
        rw [hs] at hc
        rw [upd_same]
        cases hx : bxOf c' with
        | none => rw [hx, hc] at hb; cases hb
        | some ds => exact ⟨ds, rfl⟩
      · exact ⟨cs, by rw [hσ b e2]; exact hc⟩
  · by_cases e : r = s
    · subst e; rw [upd_same]; exact q3
    · rw [hB r e]; exact hS.nodup r
end
theorem frzL_app : ∀ (a b : List V), frzL (a ++ b) = frzL a ++ frzL b
  | [], b => rfl
  | c :: a, b => by rw [List.cons_append, frzL, frzL, frzL_app a b, List.cons_append]
theorem frzL_flat {α : Type} {f g : α → List V} (h : ∀ x, frzL (f x) = g x) : ∀ l : List α, frzL (l.flatMap f) = l.flatMap g
  | [] => rfl
  | x :: l => by rw [List.flatMap_cons, List.flatMap_cons, frzL_app, h, frzL_flat h l]
section
variable {P : Program} {nt : Nat} {bx : List Nat} {K : PS → Prop} {L : PL} {α : Type} {f g : α → List V} {l : List α} {e : TypeId}
theorem gFb {b : Nat} (A C : List V) (hs : lk L b = some (.box (A ++ .own e l.length (l.flatMap f) :: C))) (hf : ∀ x, frzL (f x) = g x)
    (h : K (ofL ((b, .box (A ++ .arg l.length (l.flatMap g) :: C)) :: L))) : Gh P nt bx (ofL L) K := by
  rw [← frzL_flat hf l] at h
  exact gh_frz (lk_ok hs) frz_box rfl rfl (gh_k h)
theorem gFi {b : Nat} (A C : List V) (hs : lk L b = some (.box (A ++ .own e l.length (l.flatMap f) :: C))) (hf : ∀ x, frzL (f x) = g x)
    (h : K (ofL ((b, .box (A ++ .own e l.length (l.flatMap g) :: C)) :: L))) : Gh P nt bx (ofL L) K := by
  rw [← frzL_flat hf l] at h
  exact gh_frz (lk_ok hs) frzI_box rfl rfl (gh_k h)
theorem gFs {b : Nat} (hs : lk L b = some (.own e l.length (l.flatMap f))) (hf : ∀ x, frzL (f x) = g x)
    (h : K (ofL ((b, .arg l.length (l.flatMap g)) :: L))) : Gh P nt bx (ofL L) K := by
  rw [← frzL_flat hf l] at h
  exact gh_frz (lk_ok hs) frz_own rfl rfl (gh_k h)
end
theorem fzc {c c' : V} {cs cs' : List V} (h : frz c = c') (k : frzL cs = cs') : frzL (c :: cs) = c' :: cs' := by rw [frzL, h, k]
theorem fzO {α : Type} {f g : α → List V} (h : ∀ x, frzL (f x) = g x) (e : TypeId) (l : List α) : frz (.own e l.length (l.flatMap f)) = .arg l.length (l.flatMap g) := by rw [frz, frzL_flat h]
end Go.Proofs.YtkclaipnejgloaaDoor
