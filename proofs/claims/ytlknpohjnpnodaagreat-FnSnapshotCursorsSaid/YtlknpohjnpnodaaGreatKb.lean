/-
  A machine on data, part 2: code, the rules of the printed walks, loops. Over no program; no conditions.
-/
import Derived.Test.YtlknpohjnpnodaaGreatKp
namespace Go.Proofs.YtlknpohjnpnodaaGreat
open Go.RowKit
set_option linter.unusedVariables false
theorem p2 {α β : Type} {a a' : α} {b b' : β} (h : (a, b) = (a', b')) : a = a' ∧ b = b' := Prod.mk.inj h
theorem p3 {α β γ : Type} {a a' : α} {b b' : β} {c c' : γ} (h : (a, b, c) = (a', b', c')) : a = a' ∧ b = b' ∧ c = c' := ⟨(p2 h).1, p2 (p2 h).2⟩
theorem p4 {α β γ δ : Type} {a a' : α} {b b' : β} {c c' : γ} {d d' : δ} (h : (a, b, c, d) = (a', b', c', d')) : a = a' ∧ b = b' ∧ c = c' ∧ d = d' := ⟨(p2 h).1, p3 (p2 h).2⟩
theorem p5 {α β γ δ ε : Type} {a a' : α} {b b' : β} {c c' : γ} {d d' : δ} {e e' : ε} (h : (a, b, c, d, e) = (a', b', c', d', e')) : a = a' ∧ b = b' ∧ c = c' ∧ d = d' ∧ e = e' := ⟨(p2 h).1, p4 (p2 h).2⟩
section
variable {P : Program} {tb : Tb} {cns : List Nat} {σ : PS} {K : PS -> Prop} {d s t : Nat} {x y z : Operand}
theorem oGR {op : Op} {q : Nat} {e b : Bool} (g : e = b) (h : (gOp cns d op, σ q) = (true, .bool e)) (k : evO P tb cns ⟨some d, op, t, none⟩ σ K) : evO P tb cns ⟨some d, op, t, some (some q, b)⟩ σ K := by
 subst g; obtain ⟨h1, h2⟩ := p2 h; exact gR h1 h2 k
theorem ed {o : LO} {os : List LO} {R W : List Nat} {fps : List (List Nat × List Nat)} (h : (V3 R W o.op σ, adB cns R o σ) = (true, true)) (k : evO P tb cns o σ (fun σ' => evD P tb cns fps os σ' K)) : evD P tb cns ((R, W) :: fps) (o :: os) σ K := evd (p2 h).1 (p2 h).2 k
end
def vA (σ : PS) : List (Nat × V) -> List V
  | [] => []
  | (s, _) :: L => σ s :: vA σ L
def vB : List (Nat × V) -> List V
  | [] => []
  | (_, c) :: L => c :: vB L
theorem okr {σ : PS} : ∀ {L : List (Nat × V)}, vA σ L = vB L -> okK σ L
  | [], _ => trivial
  | (s, c) :: L, h => by
    injection h with h1 h2
    exact ⟨h1 ▸ kr, okr h2⟩
section
variable {P : Program} {nt : Nat} {bx : List Nat} {σ : PS} {Q : Exit -> PS -> Prop} {tb : Tb} {cns : List Nat}
theorem kp {l : LC} (L : List (Nat × V)) (h1 : vA σ L = vB L) (h2 : okR L = true) (h : LS P nt bx l (ofL L) Q) : LS P nt bx l σ Q := Ix L (okr h1) h2 h
end
end Go.Proofs.YtlknpohjnpnodaaGreat
namespace Go.Proofs.YtlknpohjnpnodaaGreat
open Go.RowKit
set_option linter.unusedVariables false
abbrev PL := List (Nat × V)
def ifB {α : Type} (b : Bool) (x : Option α) : Option α := match b with
  | true => x
  | false => none
theorem BX {α : Type} {b : Bool} {x : Option α} {r : α} (h : ifB b x = some r) : b = true ∧ x = some r := by
  cases b with
  | true => exact ⟨rfl, h⟩
  | false => cases h
def gX : V -> Option V
  | .int k n => some (.int k n)
  | .bool b => some (.bool b)
  | .str s => some (.str s)
  | .own e n cs => some (.own e n cs)
  | .dat n cs => some (.dat n cs)
  | .arg n cs => some (.arg n cs)
  | .pin u n cs => some (.pin u n cs)
  | .fn f => some (.fn f)
  | .tok u => some (.tok u)
  | _ => none
def XN : List V -> Option (List V)
  | [] => some []
  | c :: cs => Ad (gX c) fun a => Ad (XN cs) fun as => some (a :: as)
def gY : V -> Option V
  | .agg cs => Ad (XN cs) fun as => some (.agg as)
  | c => gX c
def bl : List V -> Option (List V)
  | [] => some []
  | c :: cs => Ad (gY c) fun a => Ad (bl cs) fun as => some (a :: as)
def frc : V -> Option V
  | .tup cs => Ad (bl cs) fun as => some (.tup as)
  | .box cs => Ad (XN cs) fun as => some (.box as)
  | .cref s o => some (.cref s o)
  | .adr cs o => some (.adr cs o)
  | .same s => some (.same s)
  | .uni e n cs => some (.uni e n cs)
  | c => gY c
theorem Uq {c d : V} (h : gX c = some d) : d = c := by cases c <;> first | (cases h; rfl) | cases h
theorem Px : ∀ {cs ds : List V}, XN cs = some ds -> ds = cs
  | [], _, h => by cases h; rfl
  | c :: cs, _, h => by
    rw [XN] at h
    obtain ⟨a, h1, h⟩ := Aa h
    obtain ⟨as, h2, h⟩ := Aa h
    cases h; rw [Uq h1, Px h2]
theorem Ur {c d : V} (h : gY c = some d) : d = c := by
  cases c with
  | agg cs => obtain ⟨as, h2, h⟩ := Aa (show Ad (XN cs) _ = _ from h); cases h; rw [Px h2]
  | _ => exact Uq h
theorem Us : ∀ {cs ds : List V}, bl cs = some ds -> ds = cs
  | [], _, h => by cases h; rfl
  | c :: cs, _, h => by
    rw [bl] at h
    obtain ⟨a, h1, h⟩ := Aa h
    obtain ⟨as, h2, h⟩ := Aa h
    cases h; rw [Ur h1, Us h2]
theorem Gc {c d : V} (h : frc c = some d) : d = c := by
  cases c with
  | tup cs => obtain ⟨as, h2, h⟩ := Aa (show Ad (bl cs) _ = _ from h); cases h; rw [Us h2]
  | box cs => obtain ⟨as, h2, h⟩ := Aa (show Ad (XN cs) _ = _ from h); cases h; rw [Px h2]
  | cref s o => cases h; rfl
  | adr s o => cases h; rfl
  | same s => cases h; rfl
  | uni e n cs => cases h; rfl
  | _ => exact Ur h
def lk : PL -> Nat -> Option V
  | [], _ => none
  | (s, c) :: L, q => match Nat.beq q s with
    | true => some c
    | false => lk L q
theorem Gk (s : Nat) (c : V) (L : PL) : ofL ((s, c) :: L) = upd (ofL L) s c := rfl
theorem Kr : ∀ (L : PL) (q : Nat), ofL L q = (lk L q).getD .undef
  | [], _ => rfl
  | (s, c) :: L, q => by
    rw [lk, Gk]
    cases h : Nat.beq q s with
    | true => rw [Nat.eq_of_beq_eq_true h, upd_same]; rfl
    | false => rw [upd_ne _ _ (Nat.ne_of_beq_eq_false h)]; exact Kr L q
theorem C0 {L : PL} {q : Nat} {c : V} (h : lk L q = some c) : ofL L q = c := by rw [Kr, h]; rfl
def opO (L : PL) : Operand -> Option V
  | .tmp s => lk L s
  | .const v => frc (cV v)
  | .func f => some (.fn f)
  | _ => none
theorem Cl {L : PL} {x : Operand} {c : V} (h : opO L x = some c) : opV (ofL L) x = c := by
  cases x with
  | tmp s => exact C0 h
  | const v => exact (Gc h).symm
  | func f => cases h; rfl
  | _ => cases h
def adO (L : PL) : Operand -> Option V
  | .tmp s => Ad (lk L s) fun c => match c with
    | .box _ => some (.cref s 0)
    | c => some c
  | _ => none
theorem Kg {L : PL} {x : Operand} {c : V} (h : adO L x = some c) : adV (ofL L) x = c := by
  cases x with
  | tmp s =>
    obtain ⟨a, h1, h⟩ := Aa (show Ad (lk L s) _ = _ from h)
    have := C0 h1
    simp only [adV, this]
    cases a <;> (cases h; rfl)
  | _ => cases h
def fE : V -> Bool
  | .own .. => true
  | _ => false
def fF : V -> Bool
  | .agg cs => cs.any fE
  | c => fE c
def j3 : V -> Bool
  | .tup cs => cs.any fF
  | c => fF c
theorem ZE {c : V} (h : fE c = false) : dg1 c = c := by cases c <;> first | rfl | cases h
theorem SG : ∀ {cs : List V}, cs.any fE = false -> cs.map dg1 = cs
  | [], _ => rfl
  | c :: cs, h => by
    rw [List.any_cons, Bool.or_eq_false_iff] at h
    rw [List.map_cons, ZE h.1, SG h.2]
theorem Vj {c : V} (h : fF c = false) : dg2 c = c := by
  cases c with
  | agg cs => rw [dg2, SG h]
  | _ => first | rfl | cases h
theorem SH : ∀ {cs : List V}, cs.any fF = false -> cs.map dg2 = cs
  | [], _ => rfl
  | c :: cs, h => by
    rw [List.any_cons, Bool.or_eq_false_iff] at h
    rw [List.map_cons, Vj h.1, SH h.2]
theorem dX {c : V} (h : j3 c = false) : dg c = c := by
  cases c with
  | tup cs => rw [dg, SH h]
  | agg cs => exact Vj (c := .agg cs) h
  | _ => first | rfl | cases h
theorem S9 (σ : PS) (s : Nat) : upd σ s (σ s) = σ := by
  funext q
  by_cases e : q = s
  · rw [e, upd_same]
  · rw [upd_ne _ _ e]
def Ni (L : PL) (x : Operand) (c : V) : Option PL := match x with
  | .tmp s => match j3 c with
    | false => some L
    | true => Ad (frc (dg c)) fun c' => some ((s, c') :: L)
  | _ => some L
theorem H9 {L L' : PL} {x : Operand} {c : V} (h : opO L x = some c) (h2 : Ni L x c = some L') : ofL L' = Bm (ofL L) x := by
  cases x with
  | tmp s =>
    have e := C0 h
    simp only [Ni, Bm] at h2 ⊢
    split at h2
    · rename_i ho
      cases h2
      rw [e, dX ho, <- e, S9]
    · obtain ⟨c', h3, h2⟩ := Aa h2
      cases h2
      rw [Gc h3, Gk, e]
  | _ => cases h2; rfl
def mvO (L : PL) : Operand -> Option V
  | .tmp s => Ad (lk L s) fun c => match c with
    | .uni _ _ _ => some (.same s)
    | .same b => some (.same b)
    | .box _ => some (.cref s 0)
    | .cref b o => some (.cref b o)
    | c => ifB c.isVal (frc (dg c))
  | .const v => Ad (frc (cV v)) fun c => ifB c.isVal (frc (dg c))
  | _ => none
def PE : Option TyD -> Bool
  | some (.sc (.bool false)) => true
  | _ => false
def kEq : IntKind -> IntKind -> Bool
  | .i64, .i64 => true
  | .u8, .u8 => true
  | k, k' => decide (k = k')
theorem XW {k k' : IntKind} (h : kEq k k' = true) : k = k' := by
  cases k <;> cases k' <;> first | rfl | cases h
def ft (d : Option TyD) : BinOp -> V -> V -> Bool
  | .shl, .int _ _, .int _ b => decide (0 <= b)
  | .shr, .int _ _, .int _ b => decide (0 <= b)
  | .quo, .int k _, .int k' b => kEq k k' && !decide (b = 0)
  | .rem, .int k _, .int k' b => kEq k k' && !decide (b = 0)
  | _, .int k _, .int k' _ => kEq k k'
  | .eql, .str _, .str _ => true
  | .neq, .str _, .str _ => true
  | .lss, .str _, .str _ => true
  | .leq, .str _, .str _ => true
  | .gtr, .str _, .str _ => true
  | .geq, .str _, .str _ => true
  | .eql, .bool _, .bool _ => PE d
  | .neq, .bool _, .bool _ => PE d
  | _, _, _ => false
def unB : UnOp -> V -> Bool
  | .not, .bool _ => true
  | .neg, .int _ _ => true
  | _, _ => false
def cvB (tb : Tb) (s d : TypeId) (x : V) : Option V := match tb s, tb d, x with
  | some _, some (.sc (.int k _)), .int _ n => some (.int k (k.wrap n))
  | _, _, _ => none
def bxL (L : PL) (s : Nat) : Option (List V) := Ad (lk L s) DU
def Zj (tb : Tb) (L : PL) (t : TypeId) (x : Operand) : Option V := Ad (tb t) fun d => Ad (adO L x) fun c => match c with
  | .cref s off => Ad (bxL L s) fun cs => ifB (Nat.ble (off + d.size) cs.length) (frc (getCells d cs off))
  | .adr cs off => ifB (Nat.ble (off + d.size) cs.length) (frc (getCells d cs off))
  | _ => none
def ptF (k : Nat) : Value -> Option V
  | .pointer (some ⟨g, o, none⟩) => some (.tok (.pointer (some ⟨g, o + k, none⟩)))
  | _ => none
theorem dY {k : Nat} {u : Value} {v : V} (h : ptF k u = some v) : fB u = true ∧ tokF k u = v := by
  unfold ptF at h
  split at h
  · cases h; exact ⟨rfl, rfl⟩
  · cases h
def faO (tb : Tb) (L : PL) (t : TypeId) (x : Operand) (f : Nat) : Option V := Ad (tb t) fun d => match d with
  | .st _ _ fs => Ad (fs[f]?) fun p => Ad (adO L x) fun c => match c with
    | .cref s o => Ad (bxL L s) fun _ => some (.cref s (o + p.1))
    | .adr cs o => some (.adr cs (o + p.1))
    | .tok u => ptF p.1 u
    | _ => none
  | _ => none
def jZ (L : PL) (x : Operand) : Option V := Ad (adO L x) fun c => match c with
  | .cref s o => Ad (bxL L s) fun _ => some (.cref s o)
  | .adr cs o => some (.adr cs o)
  | _ => none
def OY : Option TyD -> Bool
  | some (.sc (.str [])) => true
  | _ => false
def UM : Option TyD -> Bool
  | some (.sl ..) => true
  | _ => false
def jY (L : PL) (d : Option TyD) : V -> Option V
  | .str s => ifB (OY d) (some (.int .i64 s.length))
  | .same b => Ad (lk L b) fun c => match c with
    | .uni _ n _ => ifB (UM d) (some (.int .i64 n))
    | _ => none
  | c => Ad (Ka c) fun p => ifB (UM d) (some (.int .i64 p.1))
def T5 (tb : Tb) (L : PL) : Callee -> List Operand -> List TypeId -> Option V
  | .builtin .len, [x], [t] => Ad (opO L x) (jY L (tb t))
  | .builtin .max, [x, y], _ => Ad (opO L x) fun a => Ad (opO L y) fun b => match a, b with
    | .int k a, .int _ b => some (.int k (if a < b then b else a))
    | _, _ => none
  | .builtin .min, [x, y], _ => Ad (opO L x) fun a => Ad (opO L y) fun b => match a, b with
    | .int k a, .int _ b => some (.int k (if b < a then b else a))
    | _, _ => none
  | _, _, _ => none
def Vp (tb : Tb) (L : PL) : Op -> Option V
  | .move x => mvO L x
  | .pick c a b => Ad (opO L c) fun q => match q with
    | .bool e => match e with
      | true => Ad (opO L a) fun c => ifB c.isVal (frc (dg c))
      | false => Ad (opO L b) fun c => ifB c.isVal (frc (dg c))
    | _ => none
  | .binOp op t x y _ => Ad (opO L x) fun a => Ad (opO L y) fun b => ifB (ft (tb t) op a b) (frc (Yv op a b))
  | .unOp op _ x => Ad (opO L x) fun a => ifB (unB op a) (frc (unV op a))
  | .convert s d x => Ad (opO L x) fun a => cvB tb s d a
  | .load t x => Zj tb L t x
  | .fieldAddr t x f => faO tb L t x f
  | .call c => T5 tb L c.callee c.args.toList c.argTypes.toList
  | _ => none
theorem Ts {d : Option TyD} (h : PE d = true) : d = some (.sc (.bool false)) := by
  unfold PE at h
  split at h
  · rfl
  · cases h
theorem N4 {d : Option TyD} (h : OY d = true) : d = some (.sc (.str [])) := by
  unfold OY at h
  split at h
  · rfl
  · cases h
theorem Si {d : Option TyD} (h : UM d = true) : ∃ e es eb ez, d = some (.sl e es eb ez) := by
  unfold UM at h
  split at h
  · exact ⟨_, _, _, _, rfl⟩
  · cases h
theorem Yu {d : Option TyD} {op : BinOp} {a b : V} (h : ft d op a b = true) : Wg d op a b := by
  cases a <;> cases b <;> cases op <;> first | (cases h; done) | exact trivial | exact Ts h | exact XW h | (simp only [ft, decide_eq_true_eq] at h; exact h) | (simp only [ft, Bool.and_eq_true, Bool.not_eq_true', decide_eq_false_iff_not] at h; exact ⟨XW h.1, h.2⟩)
theorem eQ {op : UnOp} {a : V} (h : unB op a = true) : unC op a := by
  cases a <;> cases op <;> first | (cases h; done) | exact trivial
theorem eV {σ : PS} {s : Nat} {c : V} (e : σ s = c) (h : c.isVal = true) : mvC σ (.tmp s) ∧ mvV σ (.tmp s) = dg c := by
  subst e
  simp only [mvC, mvV]
  cases hc : σ s <;> rw [hc] at h <;> first | (cases h; done) | exact ⟨h, rfl⟩
theorem X5 {L : PL} {x : Operand} {v : V} (h : mvO L x = some v) : mvC (ofL L) x ∧ mvV (ofL L) x = v := by
  cases x with
  | tmp s =>
    obtain ⟨c, h1, h⟩ := Aa (show Ad (lk L s) _ = _ from h)
    have e := C0 h1
    cases c with
    | uni a b c => cases h; simp only [mvC, mvV, e]; exact ⟨trivial, trivial⟩
    | same b => cases h; simp only [mvC, mvV, e]; exact ⟨trivial, trivial⟩
    | box b => cases h; simp only [mvC, mvV, e]; exact ⟨trivial, trivial⟩
    | cref b o => cases h; simp only [mvC, mvV, e]; exact ⟨trivial, trivial⟩
    | _ =>
      obtain ⟨h2, h3⟩ := BX h
      obtain ⟨h4, h5⟩ := eV e h2
      exact ⟨h4, h5.trans (Gc h3).symm⟩
  | const c =>
    obtain ⟨c, h1, h⟩ := Aa (show Ad (frc (cV c)) _ = _ from h)
    obtain ⟨h2, h3⟩ := BX h
    have e := Gc h1
    subst e
    exact ⟨h2, (Gc h3).symm⟩
  | _ => cases h
theorem Sr {tb : Tb} {L : PL} {t : TypeId} {x : Operand} {v : V} (h : Zj tb L t x = some v) : LW (tb t) (ofL L) (adV (ofL L) x) ∧ LX (tb t) (ofL L) (adV (ofL L) x) = v := by
  obtain ⟨d, h1, h⟩ := Aa h
  obtain ⟨c, h2, h⟩ := Aa h
  rw [h1, Kg h2]
  simp only [LW, LX]
  cases c with
  | cref s off =>
    obtain ⟨cs, h3, h⟩ := Aa h
    obtain ⟨h4, h⟩ := BX h
    obtain ⟨c, h5, h6⟩ := Aa h3
    have := C0 h5
    simp only [N7, PJ, this, h6]
    exact ⟨nb h4, (Gc h).symm⟩
  | adr cs off =>
    obtain ⟨h4, h⟩ := BX h
    exact ⟨nb h4, (Gc h).symm⟩
  | _ => cases h
theorem XK {tb : Tb} {L : PL} {t : TypeId} {x : Operand} {f : Nat} {v : V} (h : faO tb L t x f = some v) : XJ (tb t) f (ofL L) (adV (ofL L) x) ∧ bj (tb t) f (adV (ofL L) x) = v := by
  obtain ⟨d, h1, h⟩ := Aa h
  cases d with
  | st n z fs =>
    obtain ⟨p, h2, h⟩ := Aa h
    obtain ⟨c, h3, h⟩ := Aa h
    rw [h1, Kg h3]
    simp only [XJ, bj, h2]
    cases c with
    | cref s o =>
      obtain ⟨cs, h4, h⟩ := Aa h
      obtain ⟨c, h5, h6⟩ := Aa h4
      cases h
      have := C0 h5
      exact ⟨⟨cs, by rw [this, h6]⟩, rfl⟩
    | adr cs o => cases h; exact ⟨trivial, rfl⟩
    | tok u => exact dY h
    | _ => cases h
  | _ => cases h
theorem Zv {L : PL} {x : Operand} {v : V} (h : jZ L x = some v) : faC (ofL L) (adV (ofL L) x) ∧ adV (ofL L) x = v := by
  obtain ⟨c, h3, h⟩ := Aa h
  rw [Kg h3]
  cases c with
  | cref s o =>
    obtain ⟨cs, h4, h⟩ := Aa h
    obtain ⟨c, h5, h6⟩ := Aa h4
    cases h
    have := C0 h5
    exact ⟨⟨cs, by rw [this, h6]⟩, rfl⟩
  | adr cs o => cases h; exact ⟨trivial, rfl⟩
  | _ => cases h
theorem Sn {L : PL} {d : Option TyD} {c v : V} {n : Nat} {cs : List V} (hs : Ka c = some (n, cs)) (h : ifB (UM d) (some (V.int .i64 n)) = some v) : OD d (ofL L) c ∧ V5 (ofL L) c = v := by
  obtain ⟨h2, h⟩ := BX h
  obtain ⟨a, b, z, q, rfl⟩ := Si h2
  cases h
  cases c <;> first | (cases hs; done) | (cases hs; exact ⟨trivial, rfl⟩)
theorem Zd {L : PL} {d : Option TyD} {c v : V} (h : jY L d c = some v) : OD d (ofL L) c ∧ V5 (ofL L) c = v := by
  cases c with
  | str s =>
    obtain ⟨h1, h⟩ := BX (show ifB (OY d) _ = _ from h)
    cases h; exact ⟨N4 h1, rfl⟩
  | same b =>
    obtain ⟨c, h1, h⟩ := Aa (show Ad (lk L b) _ = _ from h)
    have := C0 h1
    cases c with
    | uni e n cs =>
      obtain ⟨h2, h⟩ := BX h
      obtain ⟨a, b, c, z, rfl⟩ := Si h2
      cases h
      simp only [OD, V5, this]; exact ⟨trivial, trivial⟩
    | _ => cases h
  | own e n cs => exact Sn rfl h
  | dat n cs => exact Sn rfl h
  | arg n cs => exact Sn rfl h
  | pin u n cs => exact Sn rfl h
  | _ => cases h
theorem Pg {tb : Tb} {L : PL} {c : Callee} {xs : List Operand} {ts : List TypeId} {v : V} (h : T5 tb L c xs ts = some v) : Kx tb (ofL L) c xs ts ∧ Jf (ofL L) c xs = v := by
  unfold T5 at h
  split at h
  · obtain ⟨a, h1, h⟩ := Aa h
    simp only [Kx, Jf, Cl h1]
    exact Zd h
  · obtain ⟨a, h1, h⟩ := Aa h
    obtain ⟨b, h2, h⟩ := Aa h
    simp only [Kx, Jf, Cl h1, Cl h2]
    split at h
    · cases h; exact ⟨trivial, rfl⟩
    · cases h
  · obtain ⟨a, h1, h⟩ := Aa h
    obtain ⟨b, h2, h⟩ := Aa h
    simp only [Kx, Jf, Cl h1, Cl h2]
    split at h
    · cases h; exact ⟨trivial, rfl⟩
    · cases h
  · cases h
theorem Nw {tb : Tb} {L : PL} {op : Op} {v : V} (h : Vp tb L op = some v) : pc tb (ofL L) op ∧ pv tb (ofL L) op = v := by
  cases op with
  | move x => exact X5 h
  | pick c a b =>
    obtain ⟨q, h1, h⟩ := Aa (show Ad (opO L c) _ = _ from h)
    simp only [pc, pv, Cl h1]
    cases q with
    | bool e =>
      cases e with
      | true =>
        obtain ⟨c, h2, h⟩ := Aa h
        obtain ⟨h3, h⟩ := BX h
        simp only [RK, RL, Cl h2, if_true]; exact ⟨h3, (Gc h).symm⟩
      | false =>
        obtain ⟨c, h2, h⟩ := Aa h
        obtain ⟨h3, h⟩ := BX h
        simp only [RK, RL, Cl h2, Bool.false_eq_true, if_false]; exact ⟨h3, (Gc h).symm⟩
    | _ => cases h
  | binOp op t x y t' =>
    obtain ⟨a, h1, h⟩ := Aa (show Ad (opO L x) _ = _ from h)
    obtain ⟨b, h2, h⟩ := Aa h
    obtain ⟨h3, h⟩ := BX h
    simp only [pc, pv, Cl h1, Cl h2]
    exact ⟨Yu h3, (Gc h).symm⟩
  | unOp op t x =>
    obtain ⟨a, h1, h⟩ := Aa (show Ad (opO L x) _ = _ from h)
    obtain ⟨h3, h⟩ := BX h
    simp only [pc, pv, Cl h1]
    exact ⟨eQ h3, (Gc h).symm⟩
  | convert s d x =>
    obtain ⟨a, h1, h⟩ := Aa (show Ad (opO L x) _ = _ from h)
    simp only [pc, pv, Cl h1]
    unfold cvB at h
    split at h
    · rename_i h2 h3
      cases h
      simp only [Tj, Tk, h2, h3]; exact ⟨trivial, trivial⟩
    · cases h
  | load t x => exact Sr h
  | fieldAddr t x f => exact XK h
  | call c => exact Pg h
  | _ => cases h
def Oy (L : PL) (g : Option (Option Nat × Bool)) (d : Nat) (v : Option PL) : Option PL := match g with
  | none => v
  | some (some q, b) => Ad (lk L q) fun c => match c with
    | .bool e => match e, b with
      | true, true => v
      | false, false => v
      | _, _ => some ((d, .tup []) :: L)
    | .tup _ => some ((d, .tup []) :: L)
    | _ => none
  | some (none, _) => none
def fp (tb : Tb) (t : TypeId) (x : Operand) (d : Nat) (L : PL) : Option PL := match x with
  | .const (.slice none 0 0) => Ad (tb t) fun dd => match dd with
    | .sl e _ _ _ => some ((d, .own e 0 []) :: L)
    | _ => none
  | .const (.pointer none) => some ((d, .undef) :: L)
  | .tmp p => Ad (lk L p) fun c => match c with
    | .box _ => some ((d, .cref p 0) :: L)
    | .cref b o => some ((d, .cref b o) :: L)
    | c => ifB c.isVal (Ad (Ni L (.tmp p) c) fun L' => some ((d, c) :: L'))
  | .const v => Ad (frc (cV v)) fun c => ifB c.isVal (some ((d, c) :: L))
  | _ => none
def loadT (tb : Tb) (t : TypeId) (x : Operand) (d : Nat) (L : PL) : Option PL := Ad (tb t) fun dd => Ad (adO L x) fun a => match a with
  | .cref s off => Ad (lk L s) fun c => match c with
    | .box cs => ifB (Nat.ble (off + dd.size) cs.length) (Ad (frc (.box (IY dd.size cs off))) fun b => Ad (frc (JY dd cs off)) fun v => some ((d, v) :: (s, b) :: L))
    | _ => none
  | .adr cs off => ifB (Nat.ble (off + dd.size) cs.length) (Ad (frc (getCells dd cs off)) fun v => some ((d, v) :: L))
  | _ => none
def kz (s i d : Nat) (L : PL) : Option PL := Ad (lk L s) fun t => match t with
  | .tup cs => Ad (cs[i]?) fun c => ifB (cs.all V.isArg) (Ad (frc (.tup (cs.set i (dg2 c)))) fun t' => some ((d, c) :: (s, t') :: L))
  | _ => none
def lj (tb : Tb) (t : TypeId) (x y : Operand) (L : PL) : Option PL := Ad (tb t) fun dd => Ad (adO L x) fun a => match a with
  | .cref s off => Ad (lk L s) fun b => match b with
    | .box cs => Ad (opO L y) fun c => ifB (c.isArg && (Nat.beq (FX c).length dd.size && Nat.ble (off + dd.size) cs.length)) (Ad (Ni L y c) fun L' => Ad (frc (.box (LE cs off (FX c)))) fun b' => some ((s, b') :: L'))
    | _ => none
  | _ => none
def nbL (L : PL) (d : Nat) : Bool := match lk L d with
  | some c => Ci c
  | none => true
theorem QB {L : PL} {d : Nat} (h : nbL L d = true) : Ci (ofL L d) = true := by
  unfold nbL at h
  rw [Kr]
  cases hl : lk L d with
  | none => rfl
  | some c => rw [hl] at h; exact h
def alO (tb : Tb) (t : TypeId) (d : Nat) (L : PL) : Option PL := Ad (tb t) fun dd => ifB (nbL L d) (Ad (frc (.box (RR dd))) fun b => some ((d, b) :: L))
def kw (x : Operand) (d : Nat) (L : PL) : Option PL := Ad (opO L x) fun c => ifB c.isArg (Ad (Ni L x c) fun L' => ifB (nbL L' d) (Ad (frc (.box (FX c))) fun b => some ((d, b) :: L')))
def Um (place : Nat -> Option (Nat × Nat)) : List (Nat × Operand) -> PL -> List V -> Option (PL × List V)
  | [], L, cs => some (L, cs)
  | (i, x) :: r, L, cs => Ad (place i) fun p => Ad (opO L x) fun c => ifB (c.isArg && (Nat.beq (FX c).length p.2 && Nat.ble (p.1 + p.2) cs.length)) (Ad (Ni L x c) fun L' => Um place r L' (LE cs p.1 (FX c)))
theorem Pt {place : Nat -> Option (Nat × Nat)} : ∀ {ps : List (Nat × Operand)} {L L' : PL} {cs cs' : List V}, Um place ps L cs = some (L', cs') -> K0 place ps (ofL L) cs = some (ofL L', cs')
  | [], _, _, _, _, h => by cases h; rfl
  | (i, x) :: r, L, L', cs, cs', h => by
    rw [Um] at h
    obtain ⟨p, h1, h⟩ := Aa h
    obtain ⟨c, h2, h⟩ := Aa h
    obtain ⟨h3, h⟩ := BX h
    obtain ⟨L1, h4, h⟩ := Aa h
    simp only [Bool.and_eq_true] at h3
    rw [K0, h1]
    simp only
    rw [Cl h2, if_pos ⟨h3.1, Nat.eq_of_beq_eq_true h3.2.1, nb h3.2.2⟩, <- H9 h2 h4]
    exact Pt h
def ku (tb : Tb) (t : TypeId) (ps : List (Nat × Operand)) (d : Nat) (L : PL) : Option PL := Ad (tb t) fun dd => match dd with
  | .st _ z fs => Ad (Um (fun i => fs[i]?) ps L z) fun q => Ad (frc (.agg q.2)) fun c => some ((d, c) :: q.1)
  | _ => none
def I8 (tb : Tb) (cns : List Nat) (o : LO) (L : PL) : Option PL := match o with
  | ⟨some d, op, t, g⟩ => match op with
    | .assign x => match g, cns.contains d with
      | none, false => fp tb t x d L
      | _, _ => none
    | .move x => match cns.contains d with
      | true => (match g with
        | none => fp tb t x d L
        | _ => none)
      | false => Oy L g d (Ad (mvO L x) fun v => some ((d, v) :: L))
    | .load t x => match cns.contains d with
      | true => (match g with
        | none => loadT tb t x d L
        | _ => none)
      | false => Oy L g d (Ad (Zj tb L t x) fun v => some ((d, v) :: L))
    | .extract (.tmp s) i => match g with
      | none => kz s i d L
      | _ => none
    | .alloc t => match g with
      | none => alO tb t d L
      | _ => none
    | .box _ x => match g with
      | none => kw x d L
      | _ => none
    | .build t ps => Oy L g d (ku tb t ps.toList d L)
    | .pick c a b => Oy L g d (Ad (Vp tb L (.pick c a b)) fun v => some ((d, v) :: L))
    | .binOp p t x y t' => Oy L g d (Ad (Vp tb L (.binOp p t x y t')) fun v => some ((d, v) :: L))
    | .unOp p t x => Oy L g d (Ad (Vp tb L (.unOp p t x)) fun v => some ((d, v) :: L))
    | .convert s t x => Oy L g d (Ad (Vp tb L (.convert s t x)) fun v => some ((d, v) :: L))
    | .fieldAddr t x f => Oy L g d (Ad (faO tb L t x f) fun v => some ((d, v) :: L))
    | .nilCheck x => Oy L g d (Ad (jZ L x) fun v => some ((d, v) :: L))
    | .call c => match c.callee with
      | .value (.func _) => (match cns.contains d with
        | true => none
        | false => Oy L g d none)
      | .value (.tmp _) => none
      | .value (.const _) => none
      | .value (.global _) => none
      | _ => Oy L g d (Ad (T5 tb L c.callee c.args.toList c.argTypes.toList) fun v => some ((d, v) :: L))
    | .index .. => Oy L g d none
    | .indexAddr .. => Oy L g d none
    | .slice .. => Oy L g d none
    | .buildSlice .. => Oy L g d none
    | .field .. => Oy L g d none
    | _ => none
  | ⟨none, .store t x y, _, none⟩ => lj tb t x y L
  | _ => none
section
variable {P : Program} {tb : Tb} {cns : List Nat} {L L' : PL} {K : PS -> Prop} {d : Nat}
theorem GO {op : Op} {t : TypeId} {g : Option (Option Nat × Bool)} {v : Option V} (hv : ∀ r, v = some r -> pc tb (ofL L) op ∧ pv tb (ofL L) op = r) (h : Oy L g d (Ad v fun v => some ((d, v) :: L)) = some L') (k : K (ofL L')) : Ih tb ⟨some d, op, t, g⟩ (ofL L) K := by
  have run : ∀ {L' : PL}, Ad v (fun v => some ((d, v) :: L)) = some L' -> K (ofL L') -> pc tb (ofL L) op ∧ K (upd (ofL L) d (pv tb (ofL L) op)) := by
    intro L' h k
    obtain ⟨r, h1, h⟩ := Aa h
    cases h
    obtain ⟨h2, h3⟩ := hv r h1
    exact ⟨h2, by rw [h3]; exact k⟩
  unfold Oy at h
  split at h
  · exact run h k
  · rename_i q b
    obtain ⟨c, h1, h⟩ := Aa h
    simp only [Ih, C0 h1]
    cases c with
    | bool e =>
      cases e <;> cases b <;> simp only at h <;> first
        | exact ⟨rfl, fun _ => run h k, fun e => by cases e⟩
        | (cases h; exact ⟨rfl, (fun e => by cases e), fun _ => k⟩)
    | tup cs => cases h; exact ⟨rfl, (fun e => by cases e), fun _ => k⟩
    | _ => cases h
  · cases h
theorem PB {o : LO} {g : Option (Option Nat × Bool)} {v : Option PL} {X : Prop} (ho : o.g = g) (hv : ∀ L', v = some L' -> K (ofL L') -> X) (h : Oy L g d v = some L') (k : K (ofL L')) : OX o d (ofL L) K X := by
  subst ho
  unfold Oy at h
  unfold OX
  split at h
  · rename_i e; rw [e]; exact hv _ h k
  · rename_i q b e
    rw [e]
    obtain ⟨c, h1, h⟩ := Aa h
    simp only [C0 h1]
    cases c with
    | bool e =>
      cases e <;> cases b <;> simp only at h <;> first
        | exact ⟨rfl, fun _ => hv _ h k, fun e => by cases e⟩
        | (cases h; exact ⟨rfl, (fun e => by cases e), fun _ => k⟩)
    | tup cs => cases h; exact ⟨rfl, (fun e => by cases e), fun _ => k⟩
    | _ => cases h
  · cases h
theorem TV {x : Operand} {o : LO} (h : fp tb o.ty x d L = some L') (k : K (ofL L')) : Nj tb o x d (ofL L) K := by
  unfold fp at h
  split at h
  · obtain ⟨dd, h1, h⟩ := Aa h
    cases dd with
    | sl e es eb ez => cases h; simp only [Nj, h1]; exact k
    | _ => cases h
  · cases h; simp only [Nj]; exact k
  · rename_i p
    obtain ⟨c, h1, h⟩ := Aa h
    have gen : ifB c.isVal (Ad (Ni L (.tmp p) c) fun L' => some ((d, c) :: L')) = some L' -> Nj tb o (.tmp p) d (ofL L) K := by
      intro h
      obtain ⟨h2, h⟩ := BX h
      obtain ⟨L1, h3, h⟩ := Aa h
      cases h
      have e := H9 (x := .tmp p) h1 h3
      rw [Gk, e] at k
      exact Yr (C0 h1) h2 (by rw [<- C0 h1]; simp only [Bm] at k; rw [C0 h1] at k ⊢; exact k)
    cases c with
    | box cs => cases h; simp only [Nj, C0 h1]; exact k
    | cref b o => cases h; simp only [Nj, C0 h1]; exact k
    | _ => exact gen h
  · rename_i v hn hn2
    obtain ⟨c, h1, h⟩ := Aa h
    obtain ⟨h2, h⟩ := BX h
    cases h
    have e := Gc h1
    subst e
    unfold Nj
    split
    · rename_i he; injection he with he; exact absurd (by rw [he]) hn
    · rename_i he; injection he with he; exact absurd (by rw [he]) hn2
    · rename_i he; cases he
    · exact ⟨h2, k⟩
  · cases h
theorem gx {t : TypeId} {cal : Callee} {args : Array Operand} {ts : Array TypeId} {g : Option (Option Nat × Bool)} {L L' : PL} (h : Oy L g d (Ad (T5 tb L cal args.toList ts.toList) fun v => some ((d, v) :: L)) = some L') (k : K (ofL L')) : Ih tb ⟨some d, .call ⟨cal, args, ts⟩, t, g⟩ (ofL L) K := GO (op := .call ⟨cal, args, ts⟩) (fun r hr => Pg hr) h k
theorem Qb {o : LO} (h : I8 tb cns o L = some L') (k : K (ofL L')) : evO P tb cns o (ofL L) K := by
  obtain ⟨dst, op, t, g⟩ := o
  cases dst with
  | none =>
    unfold I8 at h
    split at h
    · rename_i he; cases he
    · rename_i t' x y ty he
      injection he with e1 e2 e3 e4
      subst e2 e4
      obtain ⟨dd, h1, h⟩ := Aa h
      obtain ⟨a, h2, h⟩ := Aa h
      cases a with
      | cref s off =>
        obtain ⟨b, h3, h⟩ := Aa h
        cases b with
        | box cs =>
          obtain ⟨c, h4, h⟩ := Aa h
          obtain ⟨h5, h⟩ := BX h
          obtain ⟨L1, h6, h⟩ := Aa h
          obtain ⟨b', h7, h⟩ := Aa h
          cases h
          simp only [Bool.and_eq_true] at h5
          have e := Gc h7
          subst e
          simp only [evO, Xk, h1, Kg h2, C0 h3, DU, Nb, Cl h4]
          refine ⟨trivial, h5.1, Nat.eq_of_beq_eq_true h5.2.1, nb h5.2.2, ?_⟩
          rw [<- H9 h4 h6]; exact k
        | _ => cases h
      | _ => cases h
    · cases h
  | some d =>
    cases op with
    | assign x =>
      simp only [I8] at h
      split at h
      · rename_i hc
        simp only [evO, hc, Bool.false_eq_true, if_false]
        exact ⟨trivial, TV (o := ⟨some d, .assign x, t, none⟩) h k⟩
      · cases h
    | move x =>
      simp only [I8] at h
      split at h
      · rename_i hc
        cases g with
        | none =>
          simp only [evO, hc, if_true]
          exact ⟨trivial, TV (o := ⟨some d, .move x, t, none⟩) h k⟩
        | some g => cases h
      · rename_i hc
        simp only [evO, hc, Bool.false_eq_true, if_false]
        exact GO (fun r hr => X5 hr) h k
    | load s x =>
      simp only [I8] at h
      split at h
      · rename_i hc
        cases g with
        | none =>
          simp only [evO, hc, if_true]
          refine ⟨trivial, ?_⟩
          obtain ⟨dd, h1, h⟩ := Aa h
          obtain ⟨a, h2, h⟩ := Aa h
          simp only [PI, h1, Kg h2]
          cases a with
          | cref b off =>
            obtain ⟨c, h3, h⟩ := Aa h
            cases c with
            | box cs =>
              obtain ⟨h4, h⟩ := BX h
              obtain ⟨b', h5, h⟩ := Aa h
              obtain ⟨v, h6, h⟩ := Aa h
              cases h
              rw [Gc h5, Gc h6] at k
              simp only [C0 h3, DU, Nb]
              exact ⟨nb h4, k⟩
            | _ => cases h
          | adr cs off =>
            obtain ⟨h4, h⟩ := BX h
            obtain ⟨v, h6, h⟩ := Aa h
            cases h
            rw [Gc h6] at k
            exact ⟨nb h4, k⟩
          | _ => cases h
        | some g => cases h
      · rename_i hc
        simp only [evO, hc, Bool.false_eq_true, if_false]
        exact GO (fun r hr => Sr hr) h k
    | extract x i =>
      cases x with
      | tmp s =>
        cases g with
        | none =>
          simp only [I8] at h
          obtain ⟨a, h1, h⟩ := Aa h
          cases a with
          | tup cs =>
            obtain ⟨c, h2, h⟩ := Aa h
            obtain ⟨h3, h⟩ := BX h
            obtain ⟨v, h4, h⟩ := Aa h
            cases h
            rw [Gc h4] at k
            simp only [evO, XI, C0 h1, h2]
            exact ⟨trivial, h3, k⟩
          | _ => cases h
        | some g => cases h
      | _ => cases h
    | alloc s =>
      cases g with
      | none =>
        obtain ⟨dd, h1, h⟩ := Aa (show Ad (tb s) _ = _ from h)
        obtain ⟨h2, h⟩ := BX h
        obtain ⟨v, h4, h⟩ := Aa h
        cases h
        rw [Gc h4] at k
        exact gQ (QB h2) h1 k
      | some g => cases h
    | box ty x =>
      cases g with
      | none =>
        obtain ⟨c, h1, h⟩ := Aa (show Ad (opO L x) _ = _ from h)
        obtain ⟨h2, h⟩ := BX h
        obtain ⟨L1, h3, h⟩ := Aa h
        obtain ⟨h4, h⟩ := BX h
        obtain ⟨v, h5, h⟩ := Aa h
        cases h
        rw [Gc h5] at k
        have e := H9 h1 h3
        have h4 := QB h4
        rw [e] at h4
        simp only [evO, boxS, Cl h1]
        exact ⟨trivial, h2, h4, by rw [<- e]; exact k⟩
      | some g => cases h
    | build s ps =>
      simp only [I8] at h
      simp only [evO]
      refine PB rfl (fun L1 h k => ?_) h k
      obtain ⟨dd, h1, h⟩ := Aa h
      cases dd with
      | st n z fs =>
        obtain ⟨q, h2, h⟩ := Aa h
        obtain ⟨c, h3, h⟩ := Aa h
        cases h
        rw [Gc h3] at k
        simp only [MR, h1, Pt (L' := q.1) (cs' := q.2) h2]
        exact k
      | _ => cases h
    | pick c a b => simp only [I8] at h; exact GO (op := .pick c a b) (fun r hr => Nw hr) h k
    | binOp p t x y t' => simp only [I8] at h; exact GO (op := .binOp p t x y t') (fun r hr => Nw hr) h k
    | unOp p t x => simp only [I8] at h; exact GO (op := .unOp p t x) (fun r hr => Nw hr) h k
    | convert s t x => simp only [I8] at h; exact GO (op := .convert s t x) (fun r hr => Nw hr) h k
    | fieldAddr t x f => simp only [I8] at h; exact GO (op := .fieldAddr t x f) (fun r hr => XK hr) h k
    | nilCheck x => simp only [I8] at h; exact GO (op := .nilCheck x) (fun r hr => Zv hr) h k
    | index s x y => simp only [I8] at h; exact GO (op := .index s x y) (v := none) (fun r hr => by cases hr) h k
    | indexAddr s x y => simp only [I8] at h; exact GO (op := .indexAddr s x y) (v := none) (fun r hr => by cases hr) h k
    | slice s x lo hi m => simp only [I8] at h; exact GO (op := .slice s x lo hi m) (v := none) (fun r hr => by cases hr) h k
    | buildSlice s n ps => simp only [I8] at h; simp only [evO]; exact PB rfl (fun L1 h k => by cases h) h k
    | field s x f => simp only [I8] at h; simp only [evO]; exact PB rfl (fun L1 h k => by cases h) h k
    | call c =>
      obtain ⟨cal, args, ts⟩ := c
      simp only [I8] at h
      cases cal with
      | value x =>
        cases x with
        | func f =>
          simp only at h
          cases hcd : cns.contains d with
          | true => rw [hcd] at h; cases h
          | false =>
            rw [hcd] at h
            simp only at h
            show Iv P cns ⟨some d, .call ⟨.value (.func f), args, ts⟩, t, g⟩ f args.toList (ofL L) K
            unfold Iv
            rw [if_neg (by simpa using hcd)]
            left
            unfold Ln
            unfold Oy at h
            cases g with
            | none => cases h
            | some g =>
              obtain ⟨q, b⟩ := g
              cases q with
              | none => cases h
              | some q =>
                obtain ⟨c, h1, h⟩ := Aa (show Ad (lk L q) _ = _ from h)
                simp only [C0 h1]
                cases c with
                | bool e =>
                  cases e <;> cases b <;> simp only at h <;> first
                    | (cases h; done)
                    | (cases h; exact ⟨rfl, (fun e => by cases e), fun _ => k⟩)
                | tup cs => cases h; exact ⟨rfl, (fun e => by cases e), fun _ => k⟩
                | _ => cases h
        | _ => cases h
      | builtin b =>
        have hp : Ih tb ⟨some d, .call ⟨.builtin b, args, ts⟩, t, g⟩ (ofL L) K := GO (op := .call ⟨.builtin b, args, ts⟩) (fun r hr => Pg hr) h k
        cases b with
        | append =>
          simp only [evO, MS]
          split
          · rename_i heq; cases heq
          · rename_i _ heq _ _
            injection heq with heq
            subst heq
            refine PB rfl (fun L1 h k => ?_) h k
            obtain ⟨r, hr, _⟩ := Aa h
            cases hr
          · exact hp
        | _ => exact hp
      | _ => exact gx h k
    | _ => cases h
end
def Xj (tb : Tb) (cns : List Nat) : Nat -> List LO -> PL -> Option (List LO × PL)
  | 0, os, L => some (os, L)
  | _ + 1, [], _ => none
  | n + 1, o :: os, L => Ad (I8 tb cns o L) fun L' => Xj tb cns n os L'
def fq (L : PL) (R : List Nat) (p : Nat) : Bool := match lk L p with
  | some c => bas R c
  | none => true
theorem TY {L : PL} {R : List Nat} {p : Nat} (h : fq L R p = true) : bas R (ofL L p) = true := by
  unfold fq at h
  rw [Kr]
  cases hl : lk L p with
  | none => rfl
  | some c => rw [hl] at h; exact h
def Yt (L : PL) (R W : List Nat) (p : Nat) : Bool := match lk L p with
  | some c => aM R W p c
  | none => true
theorem We {L : PL} {R W : List Nat} {p : Nat} (h : Yt L R W p = true) : aM R W p (ofL L p) = true := by
  unfold Yt at h
  rw [Kr]
  cases hl : lk L p with
  | none => rfl
  | some c => rw [hl] at h; exact h
def U3 (L : PL) (p : Nat) : Bool := match lk L p with
  | some c => U2 c
  | none => true
theorem U4 {L : PL} {p : Nat} (h : U3 L p = true) : U2 (ofL L p) = true := by
  unfold U3 at h
  rw [Kr]
  cases hl : lk L p with
  | none => rfl
  | some c => rw [hl] at h; exact h
def gu (L : PL) (p : Nat) : Bool := match lk L p with
  | some c => aN c
  | none => false
theorem Yx {L : PL} {p : Nat} (h : gu L p = true) : aN (ofL L p) = true := by
  unfold gu at h
  rw [Kr]
  cases hl : lk L p with
  | none => rw [hl] at h; cases h
  | some c => rw [hl] at h; exact h
def stepD (tb : Tb) (cns : List Nat) : Nat -> List (List Nat × List Nat) -> List LO -> PL -> Option (List (List Nat × List Nat) × List LO × PL)
  | 0, fps, os, L => some (fps, os, L)
  | n + 1, (R, W) :: fps, o :: os, L => ifB ((adP o.op).all (fq L R) && ((adC o.op).all (Yt L R W) && ((adS o.op).all (U3 L) && ((adU cns o).all (fq L R) && (ptS cns).all (gu L))))) (Ad (I8 tb cns o L) fun L' => stepD tb cns n fps os L')
  | _ + 1, _, _, _ => none
def Tt (L : PL) : List Nat -> Option PL
  | [] => some []
  | s :: ss => Ad (lk L s) fun c => Ad (Tt L ss) fun L' => some ((s, c) :: L')
def Tu (L : PL) (ss : List Nat) : Option PL := Ad (Tt L ss) fun L' => ifB (okR L') (some L')
theorem Sj {L : PL} : ∀ {ss : List Nat} {L' : PL}, Tt L ss = some L' -> okK (ofL L) L'
  | [], _, h => by cases h; trivial
  | s :: ss, _, h => by
    rw [Tt] at h
    obtain ⟨c, h1, h⟩ := Aa h
    obtain ⟨L1, h2, h⟩ := Aa h
    cases h
    exact ⟨(C0 h1) ▸ kr, Sj h2⟩
theorem Sk {L L' : PL} {ss : List Nat} (h : Tu L ss = some L') : okK (ofL L) L' ∧ okR L' = true := by
  obtain ⟨L1, h1, h⟩ := Aa h
  obtain ⟨h2, h⟩ := BX h
  cases h
  exact ⟨Sj h1, h2⟩
def Rz : Nat -> List V -> PL
  | _, [] => []
  | i, c :: cs => (i, c) :: Rz (i + 1) cs
theorem XV : ∀ (args : List V) (i s : Nat), okK (fun q => (args[q - i]?).getD (.tup [])) (Rz i args)
  | [], _, _ => trivial
  | c :: cs, i, s => by
    refine ⟨by simpa using kr, ?_⟩
    have h := XV cs (i + 1) s
    have key : ∀ (L : PL) (f g : PS), (∀ p ∈ L, f p.1 = g p.1) -> okK f L -> okK g L := by
      intro L f g
      induction L with
      | nil => intro _ _; trivial
      | cons p L ih =>
        obtain ⟨q, c⟩ := p
        intro he hk
        exact ⟨by rw [<- he (q, c) (by simp)]; exact hk.1, ih (fun p hp => he p (by simp [hp])) hk.2⟩
    have hlow : ∀ (cs : List V) (j : Nat), ∀ p ∈ Rz j cs, j <= p.1 := by
      intro cs
      induction cs with
      | nil => intro j p hp; simp [Rz] at hp
      | cons c cs ih =>
        intro j p hp
        simp only [Rz, List.mem_cons] at hp
        rcases hp with rfl | hp
        · exact Nat.le_refl _
        · have := ih (j + 1) p hp; omega
    refine key _ _ _ (fun p hp => ?_) h
    have := hlow cs (i + 1) p hp
    rw [show p.1 - i = (p.1 - (i + 1)) + 1 by omega, List.getElem?_cons_succ]
section
variable {P : Program} {tb : Tb} {cns : List Nat} {L L' : PL} {K : PS -> Prop} {ops os : List LO} {fps fps' : List (List Nat × List Nat)}
theorem S3 : ∀ {n : Nat} {ops : List LO} {L : PL}, Xj tb cns n ops L = some (os, L') -> evS P tb cns os (ofL L') K -> evS P tb cns ops (ofL L) K
  | 0, _, _, h, k => by cases h; exact k
  | _ + 1, [], _, h, _ => by cases h
  | n + 1, o :: ops, L, h, k => by
    rw [Xj] at h
    obtain ⟨L1, h1, h⟩ := Aa h
    exact Qb (K := fun σ' => evS P tb cns ops σ' K) h1 (S3 h k)
theorem sp (n : Nat) (h : Xj tb cns n ops L = some (os, L')) (k : evS P tb cns os (ofL L') K) : evS P tb cns ops (ofL L) K := S3 h k
theorem S0 : ∀ {n : Nat} {fps : List (List Nat × List Nat)} {ops : List LO} {L : PL}, stepD tb cns n fps ops L = some (fps', os, L') -> evD P tb cns fps' os (ofL L') K -> evD P tb cns fps ops (ofL L) K
  | 0, _, _, _, h, k => by cases h; exact k
  | n + 1, [], _, _, h, _ => by cases h
  | n + 1, _ :: _, [], _, h, _ => by cases h
  | n + 1, (R, W) :: fps, o :: ops, L, h, k => by
    rw [stepD] at h
    obtain ⟨h1, h⟩ := BX h
    obtain ⟨L1, h2, h⟩ := Aa h
    simp only [Bool.and_eq_true, List.all_eq_true] at h1
    refine evd (by unfold V3; rw [Bool.and_eq_true, Bool.and_eq_true]; exact ⟨List.all_eq_true.2 fun p hp => TY (h1.1 p hp), List.all_eq_true.2 fun p hp => We (h1.2.1 p hp), List.all_eq_true.2 fun p hp => U4 (h1.2.2.1 p hp)⟩) (by unfold adB bxS; rw [Bool.and_eq_true]; exact ⟨List.all_eq_true.2 fun p hp => TY (h1.2.2.2.1 p hp), List.all_eq_true.2 fun p hp => Yx (h1.2.2.2.2 p hp)⟩) ?_
    exact Qb (K := fun σ' => evD P tb cns fps ops σ' K) h2 (S0 h k)
theorem sd (n : Nat) (h : stepD tb cns n fps ops L = some (fps', os, L')) (k : evD P tb cns fps' os (ofL L') K) : evD P tb cns fps ops (ofL L) K := S0 h k
theorem X0 {q : Nat} {c b : Bool} (e : c = b) (h : lk L q = some (.bool c)) : ofL ((q, .bool b) :: L) = ofL L := by
  subst e
  rw [Gk, <- C0 h, S9]
theorem qg (q : Nat) {c b : Bool} (e : c = b) (h : lk L q = some (.bool c)) (k : evS P tb cns ops (ofL ((q, .bool b) :: L)) K) : evS P tb cns ops (ofL L) K := by rw [X0 e h] at k; exact k
theorem qgd (q : Nat) {c b : Bool} (e : c = b) (h : lk L q = some (.bool c)) (k : evD P tb cns fps ops (ofL ((q, .bool b) :: L)) K) : evD P tb cns fps ops (ofL L) K := by rw [X0 e h] at k; exact k
end
section
variable {P : Program} {nt : Nat} {bx : List Nat} {l : LC} {Q : Exit -> PS -> Prop} {tb : Tb} {cns : List Nat} {L L' : PL}
theorem qk (ss : List Nat) (h : Tu L ss = some L') (k : LS P nt bx l (ofL L') Q) : LS P nt bx l (ofL L) Q := Ix L' (Sk h).1 (Sk h).2 k
theorem qi (args : List V) (hr : okR (Rz 0 args) = true) (k : LS P nt bx l (ofL (Rz 0 args)) Q) : LS P nt bx l (Iw args) Q := Ix _ (XV args 0 0) hr k
end
section
variable {P : Program} {tb : Tb} {cns : List Nat} {L : PL} {K : PS -> Prop} {d s t : Nat} {x y z : Operand}
def gr (L : PL) (x : Operand) : Option V := Ad (opO L x) fun c => ifB c.isArg (some c)
theorem Rg {c : V} (h : gr L x = some c) : opV (ofL L) x = c ∧ c.isArg = true := by
  obtain ⟨c', h1, h⟩ := Aa h
  obtain ⟨h2, h⟩ := BX h
  cases h
  exact ⟨Cl h1, h2⟩
theorem qa {c a : V} {xs : List Operand} {as : List V} (h1 : gr L x = some c) (h2 : er c = a) (h3 : erA (ofL L) xs as) : erA (ofL L) (x :: xs) (a :: as) := era (by rw [(Rg h1).1]; exact (Rg h1).2) (by rw [(Rg h1).1]; exact h2) h3
def kL : V -> Bool
  | .int .. | .bool .. | .str .. | .fn .. => true
  | _ => false
theorem qs {a : V} {xs : List Operand} {as : List V} (h1 : Ad (gr L x) (fun c => ifB (kL c) (some c)) = some a) (h3 : erA (ofL L) xs as) : erA (ofL L) (x :: xs) (a :: as) := by
  obtain ⟨c, h2, h⟩ := Aa h1
  obtain ⟨h4, h⟩ := BX h
  cases h
  exact qa h2 (by cases a <;> first | rfl | cases h4) h3
theorem cnF (hc : cns.contains d = false) : (some d).toList.any cns.contains = false := by simpa using hc
theorem qC {f : FuncId} {args : Array Operand} {ts : Array TypeId} {as : List V} {r : V} (he : erA (ofL L) args.toList as) (hs : Ah P f as r) (k : K (ofL ((d, r) :: L))) (hc : cns.contains d = false := by rfl) : evO P tb cns ⟨some d, .call { callee := .value (.func f), args := args, argTypes := ts }, t, none⟩ (ofL L) K := YJ (cnF hc) he hs k
theorem qCt {f : FuncId} {p : Nat} {args : Array Operand} {ts : Array TypeId} {as : List V} {r : V} (hp : lk L p = some (.fn f)) (he : erA (ofL L) args.toList as) (hs : Ah P f as r) (k : K (ofL ((d, r) :: L))) (hc : cns.contains d = false := by rfl) : evO P tb cns ⟨some d, .call { callee := .value (.tmp p), args := args, argTypes := ts }, t, none⟩ (ofL L) K := by
  obtain ⟨h1, h2⟩ := R5 he
  subst h2
  show (match opV (ofL L) (.tmp p) with
    | .fn f => Iv P cns _ f args.toList (ofL L) K
    | _ => False)
  rw [show opV (ofL L) (.tmp p) = .fn f from C0 hp]
  show Iv P cns _ f args.toList (ofL L) K
  unfold Iv
  rw [if_neg (by simpa using hc)]
  exact .inl ⟨h1, r, .inl hs, k⟩
def iaO (tb : Tb) (L : PL) (s : TypeId) (x y : Operand) : Option (Nat × List V × Int × Nat) := Ad (opO L x) fun a => Ad (Ka a) fun p => Ad (opO L y) fun b => match b with
  | .int _ i => Ad (tb s) fun dd => match dd with
    | .sl _ es _ _ => some (p.1, p.2, i, es)
    | _ => none
  | _ => none
theorem qI {α : Type} {f : α -> List V} {l : List α} {i : Int} {e : α} {n : Nat} (h : iaO tb L s x y = some (l.length, l.flatMap f, i, n)) (hf : ∀ x, (f x).length = n) (hi : AA l i = some e) (k : K (ofL ((d, .adr (f e ++ (l.drop (i.toNat + 1)).flatMap f) 0) :: L))) : evO P tb cns ⟨some d, .indexAddr s x y, t, none⟩ (ofL L) K := by
  obtain ⟨a, h1, h⟩ := Aa h
  obtain ⟨p, h2, h⟩ := Aa h
  obtain ⟨b, h3, h⟩ := Aa h
  obtain ⟨g1, g2, g3⟩ := Az hi
  cases b with
  | int kk j =>
    obtain ⟨dd, h4, h⟩ := Aa h
    cases dd with
    | sl e' es eb ez =>
      simp only [Option.some.injEq, Prod.mk.injEq] at h
      obtain ⟨e1, e2, e3, e4⟩ := h
      subst e3 e4
      refine gV (n := l.length) (cs := l.flatMap f) (by rw [Cl h1, h2]; cases p; cases e1; cases e2; rfl) (Cl h3) h4 ⟨g1, g2⟩ ?_
      have := (XM hf g3 0).resolve_right (by omega)
      rw [Nat.add_zero, List.drop_zero] at this
      rw [this]; exact k
    | _ => cases h
  | _ => cases h
def lg (tb : Tb) (L : PL) (s : TypeId) (x y : Operand) : Option (List UInt8 × Int) := Ad (opO L x) fun a => match a with
  | .str u => Ad (opO L y) fun b => match b with
    | .int _ i => ifB (OY (tb s)) (some (u, i))
    | _ => none
  | _ => none
theorem qX {u : List UInt8} {i : Int} {b : UInt8} (h : lg tb L s x y = some (u, i)) (hi : AA u i = some b) (k : K (ofL ((d, .int .u8 b.toNat) :: L))) : evO P tb cns ⟨some d, .index s x y, t, none⟩ (ofL L) K := by
  obtain ⟨a, h1, h⟩ := Aa h
  cases a with
  | str u' =>
    obtain ⟨b', h3, h⟩ := Aa h
    cases b' with
    | int kk j =>
      obtain ⟨h4, h⟩ := BX h
      cases h
      exact be (Cl h1) (Cl h3) (N4 h4) hi k
    | _ => cases h
  | _ => cases h
def bdO (dflt : Int) (L : PL) : Option Operand -> Option Int
  | none => some dflt
  | some x => Ad (opO L x) M8
theorem RY {dflt i : Int} {lo : Option Operand} (h : bdO dflt L lo = some i) : Qm dflt (lo.map (opV (ofL L))) = some i := by
  cases lo with
  | none => exact h
  | some x =>
    obtain ⟨c, h1, h⟩ := Aa (show Ad (opO L x) _ = _ from h)
    simp only [Option.map_some, Qm, Cl h1]; exact h
def li (tb : Tb) (L : PL) (s : TypeId) (x : Operand) (lo hi : Option Operand) : Option (List UInt8 × Int × Int) := Ad (opO L x) fun a => match a with
  | .str u => ifB (OY (tb s)) (Ad (bdO 0 L lo) fun l => Ad (bdO u.length L hi) fun h => some (u, l, h))
  | _ => none
theorem qSs {u : List UInt8} {lo hi : Option Operand} {l h : Int} (hh : li tb L s x lo hi = some (u, l, h)) (hb : 0 <= l ∧ l <= h ∧ h <= u.length) (k : K (ofL ((d, .str (A7 u l h)) :: L))) : evO P tb cns ⟨some d, .slice s x lo hi none, t, none⟩ (ofL L) K := by
  obtain ⟨a, h1, hh⟩ := Aa hh
  cases a with
  | str u' =>
    obtain ⟨h4, hh⟩ := BX hh
    obtain ⟨l', h5, hh⟩ := Aa hh
    obtain ⟨r', h6, hh⟩ := Aa hh
    cases hh
    exact bg (Cl h1) (N4 h4) (RY h5) (RY h6) hb k
  | _ => cases hh
def fo : V -> Bool
  | .arg .. => true
  | _ => false
theorem W2 {a : V} (h : fo a = false) (n : Nat) (cs : List V) : PP a n cs = .dat n cs := by cases a <;> first | rfl | cases h
theorem Vn {a : V} (h : fo a = true) (n : Nat) (cs : List V) : PP a n cs = .arg n cs := by cases a <;> first | rfl | cases h
def jJ (tb : Tb) (L : PL) (b : Bool) (s : TypeId) (x : Operand) (lo hi : Option Operand) : Option (Nat × List V × Nat × Int × Int) := Ad (opO L x) fun a => ifB (fo a == b) <| Ad (Ka a) fun p => Ad (tb s) fun dd => match dd with
  | .sl _ es _ _ => Ad (bdO 0 L lo) fun l => Ad (bdO p.1 L hi) fun h => some (p.1, p.2, es, l, h)
  | _ => none
theorem j4 {α : Type} {f : α -> List V} {lst : List α} {n : Nat} {lo hi : Option Operand} {l h : Int} {b : Bool} (hh : jJ tb L b s x lo hi = some (lst.length, lst.flatMap f, n, l, h)) (hf : ∀ x, (f x).length = n) (hb : 0 <= l ∧ l <= h ∧ h <= lst.length) (k : ∀ a, fo a = b -> K (ofL ((d, PP a (A7 lst l h).length ((A7 lst l h).flatMap f)) :: L))) : evO P tb cns ⟨some d, .slice s x lo hi none, t, none⟩ (ofL L) K := by
  obtain ⟨a, h1, hh⟩ := Aa hh
  obtain ⟨hk, hh⟩ := BX hh
  obtain ⟨p, h2, hh⟩ := Aa hh
  obtain ⟨dd, h3, hh⟩ := Aa hh
  cases dd with
  | sl e es eb ez =>
    obtain ⟨l', h5, hh⟩ := Aa hh
    obtain ⟨r', h6, hh⟩ := Aa hh
    simp only [Option.some.injEq, Prod.mk.injEq] at hh
    obtain ⟨e1, e2, e3, e4, e5⟩ := hh
    subst e3 e4 e5
    rw [e1] at h6
    exact bf (lst := lst) (f := f) (by rw [Cl h1, h2]; cases p; cases e1; cases e2; rfl) h3 hf (RY h5) (RY h6) hb (by rw [Cl h1]; exact k a (eq_of_beq hk))
  | _ => cases hh
theorem qSl {α : Type} {f : α -> List V} {lst : List α} {n : Nat} {lo hi : Option Operand} {l h : Int} (hh : jJ tb L false s x lo hi = some (lst.length, lst.flatMap f, n, l, h)) (hf : ∀ x, (f x).length = n) (hb : 0 <= l ∧ l <= h ∧ h <= lst.length) (k : K (ofL ((d, .dat (A7 lst l h).length ((A7 lst l h).flatMap f)) :: L))) : evO P tb cns ⟨some d, .slice s x lo hi none, t, none⟩ (ofL L) K :=
  j4 hh hf hb fun a ha => by rw [W2 ha]; exact k
theorem qSa {α : Type} {f : α -> List V} {lst : List α} {n : Nat} {lo hi : Option Operand} {l h : Int} (hh : jJ tb L true s x lo hi = some (lst.length, lst.flatMap f, n, l, h)) (hf : ∀ x, (f x).length = n) (hb : 0 <= l ∧ l <= h ∧ h <= lst.length) (k : K (ofL ((d, .arg (A7 lst l h).length ((A7 lst l h).flatMap f)) :: L))) : evO P tb cns ⟨some d, .slice s x lo hi none, t, none⟩ (ofL L) K :=
  j4 hh hf hb fun a ha => by rw [Vn ha]; exact k
def kt (L : PL) (x y : Operand) : Option (V × V) := Ad (opO L x) fun a => Ad (opO L y) fun b => some (a, b)
theorem qB {op : BinOp} {ta tc : TypeId} {c1 c2 v : V} (h : kt L x y = some (c1, c2)) (hc : Wg (tb ta) op c1 c2) (hv : frc (Yv op c1 c2) = some v) (k : K (ofL ((d, v) :: L))) : evO P tb cns ⟨some d, .binOp op ta x y tc, t, none⟩ (ofL L) K := by
  obtain ⟨a, h1, h⟩ := Aa h
  obtain ⟨b, h2, h⟩ := Aa h
  cases h
  rw [Gc hv] at k
  exact a9 (Cl h1) (Cl h2) hc k
def gq (tb : Tb) (L : PL) (s : TypeId) (p q : Nat) : Option (Nat × List V × Nat × Nat × List V × V × PL) := Ad (lk L p) fun a => match a with
  | .own e n cs => Ad (Ni L (.tmp p) (.own e n cs)) fun L1 => Ad (lk L1 q) fun c => Ad (Ka c) fun r => Ad (Ni L1 (.tmp q) c) fun L2 => Ad (tb s) fun dd => match dd with
    | .sl e' es _ _ => ifB (Nat.beq e e' && c.isVal) (some (n, cs, es, r.1, r.2, c, L2))
    | _ => none
  | _ => none
theorem qA {α : Type} (f : α -> List V) (l m : List α) {es p q : Nat} {e : TypeId} {ds : List V} {c : V} {L2 : PL} (h : gq tb L s p q = some (l.length, l.flatMap f, es, m.length, ds, c, L2)) (he : lk L p = some (.own e l.length (l.flatMap f))) (hd : ds.length = m.length * es) (ha : RW c = m.flatMap f) (hl : l.length + m.length <= lim)
    (k : K (ofL ((d, .own e (l ++ m).length ((l ++ m).flatMap f)) :: L2))) : evO P tb cns ⟨some d, .call { callee := .builtin .append, args := #[.tmp p, .tmp q], argTypes := #[s, s] }, t, none⟩ (ofL L) K := by
  obtain ⟨a, h1, h⟩ := Aa h
  rw [he] at h1
  cases h1
  obtain ⟨L1, h2, h⟩ := Aa h
  obtain ⟨c', h3, h⟩ := Aa h
  obtain ⟨r, h4, h⟩ := Aa h
  obtain ⟨L3, h5, h⟩ := Aa h
  obtain ⟨dd, h6, h⟩ := Aa h
  cases dd with
  | sl e' es' eb ez =>
    dsimp only at h
    obtain ⟨h7, h⟩ := BX h
    simp only [Bool.and_eq_true] at h7
    have e1 := Nat.eq_of_beq_eq_true h7.1
    have h := Option.some.inj h
    simp only [Prod.mk.injEq] at h
    obtain ⟨_, _, e2, e3, e4, e5, e6⟩ := h
    subst e1 e2 e5 e6
    have t1 := H9 (x := .tmp p) he h2
    have t2 := H9 (x := .tmp q) h3 h5
    simp only [Bm, C0 he] at t1
    have t1' : ofL L1 = upd (ofL L) p (.dat l.length (l.flatMap f)) := t1
    refine a7 (f := f) (l := l) (m := m) (c2 := c') (ds := ds) (C0 he) (by rw [<- t1']; exact C0 h3) (by rw [h4]; cases r; cases e3; cases e4; rfl) hd h6 ha hl h7.2 ?_
    rw [Gk, t2] at k
    simp only [Bm, C0 h3, t1'] at k
    exact k
  | _ => cases h
theorem qAd {α : Type} (f g h' : α -> List V) (l m : List α) {es p q : Nat} {e : TypeId} {ds : List V} {c : V} {L2 : PL} (h : gq tb L s p q = some (l.length, l.flatMap f, es, m.length, ds, c, L2)) (he : lk L p = some (.own e l.length (l.flatMap f))) (hd : ds.length = m.length * es) (ha : RW c = m.flatMap h') (hl : l.length + m.length <= lim) (hf : ∀ x, (f x).map dg1 = g x) (hh : ∀ x, (h' x).map dg1 = g x) (hfc : ∀ x, (f x).all V.Dv = true) (hhc : ∀ x, (h' x).all V.Dv = true)
    (k : K (ofL ((d, .own e (l ++ m).length ((l ++ m).flatMap g)) :: L2))) : evO P tb cns ⟨some d, .call { callee := .builtin .append, args := #[.tmp p, .tmp q], argTypes := #[s, s] }, t, none⟩ (ofL L) K := by
  obtain ⟨a, h1, h⟩ := Aa h
  rw [he] at h1
  cases h1
  obtain ⟨L1, h2, h⟩ := Aa h
  obtain ⟨c', h3, h⟩ := Aa h
  obtain ⟨r, h4, h⟩ := Aa h
  obtain ⟨L3, h5, h⟩ := Aa h
  obtain ⟨dd, h6, h⟩ := Aa h
  cases dd with
  | sl e' es' eb ez =>
    dsimp only at h
    obtain ⟨h7, h⟩ := BX h
    simp only [Bool.and_eq_true] at h7
    have e1 := Nat.eq_of_beq_eq_true h7.1
    have h := Option.some.inj h
    simp only [Prod.mk.injEq] at h
    obtain ⟨_, _, e2, e3, e4, e5, e6⟩ := h
    subst e1 e2 e5 e6
    have t1 := H9 (x := .tmp p) he h2
    have t2 := H9 (x := .tmp q) h3 h5
    simp only [Bm, C0 he] at t1
    have t1' : ofL L1 = upd (ofL L) p (.dat l.length (l.flatMap f)) := t1
    refine YI (f := f) (g := g) (h := h') (l := l) (m := m) (c2 := c') (ds := ds) (C0 he) (by rw [<- t1']; exact C0 h3) (by rw [h4]; cases r; cases e3; cases e4; rfl) hd h6 ha hl h7.2 hf hh hfc hhc ?_
    rw [Gk, t2] at k
    simp only [Bm, C0 h3, t1'] at k
    exact k
  | _ => cases h
def bsO (tb : Tb) (L : PL) (s : TypeId) (n : Nat) (ps : List (Nat × Operand)) : Option (TypeId × Nat × PL × List V) := Ad (tb s) fun dd => match dd with
  | .sl e es _ ez => ifB (Nat.ble (n * es) 16777216) (Ad (Um (fun i => some (i * es, es)) ps L (Oz ez es n)) fun q => Ad (XN q.2) fun cs => some (e, es, q.1, cs))
  | _ => none
theorem qBs {α : Type} (f : α -> List V) (l : List α) {e : TypeId} {es n : Nat} {ps : Array (Nat × Operand)} {L2 : PL} {cs : List V} (h : bsO tb L s n ps.toList = some (e, es, L2, cs)) (hn : l.length = n) (hc : cs = l.flatMap f) (hf : ∀ x, (f x).length = es) (k : K (ofL ((d, .own e l.length (l.flatMap f)) :: L2))) : evO P tb cns ⟨some d, .buildSlice s n ps, t, none⟩ (ofL L) K := by
  obtain ⟨dd, h1, h⟩ := Aa h
  cases dd with
  | sl e' es' eb ez =>
    obtain ⟨h2, h⟩ := BX h
    obtain ⟨q, h3, h⟩ := Aa h
    obtain ⟨cs', h4, h⟩ := Aa h
    cases h
    have e1 := Px h4
    subst hc
    simp only [evO, OX, Xy, h1, Pt (L' := q.1) (cs' := q.2) h3]
    rw [<- e1]
    refine ⟨nb h2, ?_, ?_⟩
    · rw [Ao hf, hn]
    · rw [hn] at k; exact k
  | _ => cases h
theorem qBk {α : Type} (f : α -> List V) (l : List α) (e : TypeId) (es : Nat) {n : Nat} {ps : Array (Nat × Operand)} (h : bsO tb L s n ps.toList = some (e, es, L, l.flatMap f)) (hn : l.length = n) (hf : ∀ x, (f x).length = es) (k : K (ofL ((d, .own e l.length (l.flatMap f)) :: L))) : evO P tb cns ⟨some d, .buildSlice s n ps, t, none⟩ (ofL L) K := qBs f l h hn rfl hf k
def mkO (tb : Tb) (L : PL) (s : TypeId) (x y : Operand) : Option (Int × Int × TypeId × Nat × List V) := Ad (opO L x) fun a => Ad (opO L y) fun b => match a, b with
  | .int _ n, .int _ m => Ad (tb s) fun dd => match dd with
    | .sl e es _ ez => some (n, m, e, es, ez)
    | _ => none
  | _, _ => none
theorem dC {n m : Int} {e : TypeId} {es : Nat} {ez : List V} (h : mkO tb L s x y = some (n, m, e, es, ez)) : ∃ k0 k1 eb, opV (ofL L) x = .int k0 n ∧ opV (ofL L) y = .int k1 m ∧ tb s = some (.sl e es eb ez) := by
  obtain ⟨a, h1, h⟩ := Aa h
  obtain ⟨b, h2, h⟩ := Aa h
  cases a <;> first | (cases h; done) | skip
  cases b <;> first | (cases h; done) | skip
  obtain ⟨dd, h3, h⟩ := Aa h
  cases dd <;> first | (cases h; done) | skip
  cases h
  exact ⟨_, _, _, Cl h1, Cl h2, h3⟩
theorem qMu {α : Type} (f : α -> List V) (z : α) {e : TypeId} {es : Nat} {ez : List V} {n : Int} (hc : cns.contains d = true) (h : mkO tb L s x y = some (n, n, e, es, ez)) (hz : f z = ez) (hez : ez.length = es) (hn : 0 <= n ∧ n.toNat <= lim) (hb : nbL L d = true) (k : K (ofL ((d, .uni e (List.replicate n.toNat z).length ((List.replicate n.toNat z).flatMap f)) :: L))) : evO P tb cns ⟨some d, .makeSlice s x y, t, none⟩ (ofL L) K := by
  obtain ⟨k0, k1, eb, h1, h2, h3⟩ := dC h
  exact bd hc h1 h2 h3 hz hez hn (QB hb) k
def UN (D : List Nat) (L : PL) : PL := L.map fun p => (p.1, if D.contains p.1 = true then .undef else match Dz p.2 with
  | some b => if D.contains b = true then .undef else p.2
  | none => p.2)
theorem Nr (D : List Nat) : ∀ L : PL, ofL (UN D L) = kill D (ofL L)
  | [] => by funext s; simp [UN, ofL, kill, Dz]
  | (q, c) :: L => by
    have ih := Nr D L
    funext s
    show ofL ((q, _) :: UN D L) s = _
    rw [Gk]
    by_cases e : s = q
    · subst e
      rw [upd_same]
      unfold kill
      rw [Gk, upd_same]
      rfl
    · rw [upd_ne _ _ e, ih]
      unfold kill
      rw [Gk, upd_ne _ _ e]
def frL : PL -> Option PL
  | [] => some []
  | (s, .undef) :: L => Ad (frL L) fun L' => some ((s, .undef) :: L')
  | (s, c) :: L => Ad (frc c) fun c => Ad (frL L) fun L' => some ((s, c) :: L')
theorem Sa : ∀ {L L' : PL}, frL L = some L' -> L' = L
  | [], _, h => by cases h; rfl
  | (s, c) :: L, L', h => by
    unfold frL at h
    split at h
    · rename_i he; cases he
    · rename_i he; cases he
      obtain ⟨L1, h1, h⟩ := Aa h
      cases h; rw [Sa h1]
    · rename_i he; cases he
      obtain ⟨c1, h0, h⟩ := Aa h
      obtain ⟨L1, h1, h⟩ := Aa h
      cases h; rw [Sa h1, Gc h0]
theorem qTu {e : TypeId} {n : Nat} {cs : List V} {L1 : PL} (hc : cns.contains d = true) (h : lk L s = some (.uni e n cs)) (hk : frL (UN [s] L) = some L1) (k : K (ofL ((d, .own e n cs) :: (s, .dat n cs) :: L1))) : evO P tb cns ⟨some d, .move (.tmp s), t, none⟩ (ofL L) K := by
  rw [Sa hk] at k
  refine YK hc (C0 h) ?_
  rw [<- Nr]; exact k
theorem qAu {e : TypeId} {n : Nat} {cs : List V} {L1 : PL} (hc : cns.contains d = true) (h : lk L s = some (.uni e n cs)) (hk : frL (UN [s] L) = some L1) (hn : nbL L1 d = true) (k : K (ofL ((d, .uni e n cs) :: L1))) : evO P tb cns ⟨some d, .assign (.tmp s), t, none⟩ (ofL L) K := by
  have e1 := Sa hk
  subst e1
  refine a8 hc (C0 h) (by rw [<- Nr]; exact QB hn) ?_
  rw [<- Nr]; exact k
def iuO (tb : Tb) (L : PL) (s : TypeId) (x y : Operand) : Option (Nat × Nat × Int × Nat) := Ad (opO L x) fun a => match a with
  | .same b => Ad (lk L b) fun u => match u with
    | .uni _ n _ => Ad (opO L y) fun c => match c with
      | .int _ i => Ad (tb s) fun dd => match dd with
        | .sl _ es _ _ => some (b, n, i, es)
        | _ => none
      | _ => none
    | _ => none
  | _ => none
theorem qIu {b n es : Nat} {i : Int} (h : iuO tb L s x y = some (b, n, i, es)) (hi : 0 <= i ∧ i < n) (k : K (ofL ((d, .cref b (i.toNat * es)) :: L))) : evO P tb cns ⟨some d, .indexAddr s x y, t, none⟩ (ofL L) K := by
  obtain ⟨a, h1, h⟩ := Aa h
  cases a <;> first | (cases h; done) | skip
  obtain ⟨u, h2, h⟩ := Aa h
  cases u <;> first | (cases h; done) | skip
  obtain ⟨c, h3, h⟩ := Aa h
  cases c <;> first | (cases h; done) | skip
  obtain ⟨dd, h4, h⟩ := Aa h
  cases dd <;> first | (cases h; done) | skip
  cases h
  exact ba (Cl h1) (C0 h2) (Cl h3) h4 hi k
theorem qLu {α : Type} {f : α -> List V} {n b m : Nat} (off : Nat) {l : List α} {i : Int} {e : α} {et : TypeId} {dd : TyD} {v : V} (hc : cns.contains d = false) (hx : adO L x = some (.cref b (i.toNat * n + off))) (hb : lk L b = some (.uni et m (l.flatMap f))) (hf : ∀ x, (f x).length = n) (hi : AA l i = some e) (ht : tb s = some dd) (ho : Nat.ble (off + dd.size) n = true) (hg : frc (getCells dd (f e) off) = some v) (k : K (ofL ((d, v) :: L))) : evO P tb cns ⟨some d, .load s x, t, none⟩ (ofL L) K := by
  rw [Gc hg] at k
  exact bc hc (Kg hx) (C0 hb) hf hi ht (nb ho) rfl k
theorem qSu {ty : TypeId} {α : Type} {f : α -> List V} {n b : Nat} {l : List α} {i : Int} (e : α) {et : TypeId} {dd : TyD} {c1 : V} {L1 : PL} (hx : adO L x = some (.cref b (i.toNat * n))) (hb : lk L b = some (.uni et l.length (l.flatMap f))) (hf : ∀ x, (f x).length = n) (hi : 0 <= i ∧ i < l.length) (hy : opO L y = some c1) (ht : tb t = some dd) (ha : c1.isArg = true) (hn : n = dd.size) (hc : FX c1 = f e) (hL : Ni L y c1 = some L1)
    (k : K (ofL ((b, .uni et (It l i e).length ((It l i e).flatMap f)) :: L1))) : evO P tb cns ⟨none, .store t x y, ty, none⟩ (ofL L) K := by
  refine bh (Kg hx) (C0 hb) hf hi (Cl hy) ht ha hn hc ?_
  rw [<- H9 hy hL]; exact k
end
section
variable {P : Program} {nt : Nat} {bx : List Nat} {Q : Exit -> PS -> Prop} {L : PL}
theorem qT {s : Nat} {x y : LC} {b : Bool} (hb : lk L s = some (.bool b)) (e : b = true) (h : LS P nt bx x (ofL L) Q) : LS P nt bx (.cond (.tmp s) x y) (ofL L) Q := jt (C0 hb) e h
theorem qF {s : Nat} {x y : LC} {b : Bool} (hb : lk L s = some (.bool b)) (e : b = false) (h : LS P nt bx y (ofL L) Q) : LS P nt bx (.cond (.tmp s) x y) (ofL L) Q := js (C0 hb) e h
end
section
variable {P : Program} {tb : Tb} {cns : List Nat} {L : PL} {K : PS -> Prop} {d s t : Nat} {x : Operand}
end
def VS (tb : Tb) (cns : List Nat) : List LO -> PL -> Option PL
  | [], L => some L
  | o :: os, L => Ad (I8 tb cns o L) fun L' => VS tb cns os L'
def fI (tb : Tb) : Nat -> LC -> PL -> Option (LC × PL)
  | 0, l, L => some (l, L)
  | n + 1, .seq (.rgn cns ops) y, L => Ad (VS tb cns ops L) fun L' => fI tb n y L'
  | _ + 1, _, _ => none
section
variable {P : Program} {nt : Nat} {bx : List Nat} {Q : Exit -> PS -> Prop} {tb : Tb}
theorem SZ {cns : List Nat} {K : PS -> Prop} : ∀ {ops : List LO} {L L' : PL}, VS tb cns ops L = some L' -> K (ofL L') -> evS P tb cns ops (ofL L) K
  | [], _, _, h, k => by cases h; exact k
  | o :: ops, L, _, h, k => by
    rw [VS] at h
    obtain ⟨L1, h1, h⟩ := Aa h
    exact Qb (K := fun σ' => evS P tb cns ops σ' K) h1 (SZ h k)
theorem VB (htb : J7 P tb) : ∀ {n : Nat} {l l' : LC} {L L' : PL}, fI tb n l L = some (l', L') -> LS P nt bx l' (ofL L') Q -> LS P nt bx l (ofL L) Q
  | 0, _, _, _, _, h, k => by cases h; exact k
  | n + 1, l, l', L, L', h, k => by
    cases l with
    | seq a y =>
      cases a with
      | rgn cns ops =>
        obtain ⟨L1, h1, h⟩ := Aa (show Ad (VS tb cns ops L) (fun L' => fI tb n y L') = _ from h)
        exact Zm htb (SZ h1 (VB htb h k))
      | _ => exact absurd (show none = some _ from h) (by simp)
    | _ => exact absurd (show none = some _ from h) (by simp)
abbrev Jn (K : PS -> Prop) (L : PL) : Prop := ∀ σ : PS, okK σ L -> K σ
theorem lh {l : LC} {σ : PS} {L : PL} (hk : okK σ L) (h2 : okR L = true) (h : LS P nt bx l (ofL L) Q) : LS P nt bx l σ Q := Ix L hk h2 h
end
def kS (cns : List Nat) (o : LO) : Bool := match o.op, o.dst with
  | .move _, some d => !cns.contains d
  | _, _ => false
def fpO (base : List (Nat × Nat)) (cns : List Nat) (o : LO) : List Nat × List Nat := match spc cns o with
  | true => ([], o.dst.toList)
  | false =>
  let R := O2 o.op ++ match o.op with
    | .alloc _ => o.dst.toList
    | .call _ => o.dst.toList.filter cns.contains
    | _ => []
  let R := R ++ match kS cns o with
    | true => []
    | false => base.filterMap fun p => if R.contains p.1 then some p.2 else none
  (R ++ gT o, o.dst.toList ++ if simple cns o = true then base.filterMap (fun p => if (adC o.op).contains p.1 then some p.2 else none) else R)
def cnO : List (Nat × List Nat) -> Nat -> List Nat
  | [], _ => []
  | (i, c) :: r, id => match Nat.beq id i with
    | true => c
    | false => cnO r id
def PH (base : List (Nat × Nat)) (cn : List (Nat × List Nat)) : Code -> LC
  | .skip => .skip
  | .region id ops d => match d with
    | true => .drw (cnO cn id) ((ops.toList.map (Bo ops)).map (fpO base (cnO cn id))) (ops.toList.map edg) (ops.toList.map (Bo ops))
    | false => .rgn (cnO cn id) (ops.toList.map (Bo ops))
  | .seq a b => .seq (PH base cn a) (PH base cn b)
  | .cond c a b => .cond c (PH base cn a) (PH base cn b)
  | .block id a => .blk id (PH base cn a)
  | .loop a => .loop [] (PH base cn a)
  | .exit id => .exit id
  | .ret => .ret
  | _ => .bad
theorem Lt (base : List (Nat × Nat)) (cn : List (Nat × List Nat)) : ∀ c : Code, HW c = erC (PH base cn c)
  | .skip => rfl
  | .region id ops d => by cases d <;> simp [HW, PH, erC]
  | .seq a b => by rw [HW, PH, erC, Lt base cn a, Lt base cn b]
  | .cond c a b => by rw [HW, PH, erC, Lt base cn a, Lt base cn b]
  | .block id a => by rw [HW, PH, erC, Lt base cn a]
  | .loop a => by rw [HW, PH, erC, Lt base cn a]
  | .exit id => rfl
  | .ret => rfl
  | .rangeFunc .. => rfl
  | .scope .. => rfl
  | .label .. => rfl
  | .goto .. => rfl
  | .refuse .. => rfl
def cdF (f : Func) : Code := match f.body with
  | some c => c
  | none => .skip
def jS (bx : List Nat) (base : List (Nat × Nat)) (cn : List (Nat × List Nat)) (fn : Func) : Bool :=
  fn.body.isSome && ((fn.name == "runtime.NumGoroutine") == false && (okC fn.ntmps bx (cdF fn) && (decide (fn.results.toList.map Ii).Nodup && okL bx (PH base cn (cdF fn)))))
theorem AD {P : Program} {f : Nat} {fn : Func} {bx : List Nat} {base : List (Nat × Nat)} {cn : List (Nat × List Nat)} (h1 : P.funcs[f]? = some fn) (h2 : jS bx base cn fn = true) : Lit P f fn.ntmps bx fn.results.toList (PH base cn (cdF fn)) := by
  simp only [jS, Bool.and_eq_true] at h2
  obtain ⟨h2, h3, h4, h5, h6⟩ := h2
  obtain ⟨c, hc⟩ := Option.isSome_iff_exists.1 h2
  refine ⟨⟨fn, c, h1, hc, eq_of_beq h3, rfl, rfl, ?_, ?_⟩, of_decide_eq_true h5, h6⟩
  · rw [<- Lt]; unfold cdF; rw [hc]
  · unfold cdF at h4; rw [hc] at h4; exact h4
end Go.Proofs.YtlknpohjnpnodaaGreat
namespace Go.Proofs.YtlknpohjnpnodaaGreat
open Go.RowKit
theorem BJ {S O : Type} {body : (S -> Option O) -> S -> Option O} {out : O} (f : Nat -> S) : ∀ (n : Nat), (∀ k, k < n -> ∀ rec, body rec (f k) = rec (f (k + 1))) -> (∀ rec, body rec (f n) = some out) -> ∀ m, n < m -> Ai body m (f 0) = some out := by
  have key : ∀ (d n : Nat), (∀ k, k < n -> ∀ rec, body rec (f k) = rec (f (k + 1))) -> (∀ rec, body rec (f n) = some out) -> ∀ k, k + d = n -> ∀ m, d < m -> Ai body m (f k) = some out := by
    intro d n h1 h2
    induction d with
    | zero =>
      intro k hk m hm
      cases m with
      | zero => omega
      | succ m => rw [show k = n by omega]; exact h2 _
    | succ d ih =>
      intro k hk m hm
      cases m with
      | zero => omega
      | succ m =>
        show body (Ai body m) (f k) = some out
        rw [h1 k (by omega)]
        exact ih (k + 1) (by omega) m (by omega)
  intro n h1 h2 m hm
  exact key n n h1 h2 0 (by omega) m hm
theorem wrap_in {n : Int} (h : -9223372036854775808 <= n ∧ n <= 9223372036854775807) : IntKind.i64.wrap n = n := by
  unfold IntKind.wrap
  simp [IntKind.signed, IntKind.bits] <;> omega
theorem AH {k n : Nat} (h : k < n) (hn : n <= maxLen) : IntKind.i64.wrap ((k : Int) + 1) = ((k + 1 : Nat) : Int) := by
  rw [wrap_in (by unfold maxLen at hn; omega)]; simp
theorem FI {α : Type} (l : List α) (k : Nat) : AA l (k : Int) = l[k]? := by simp [AA]
theorem Ak {α : Type} {l : List α} {k : Nat} (h : k < l.length) : AA l (k : Int) = some l[k] := by rw [FI, List.getElem?_eq_getElem h]
theorem G0 {n : Nat} (h : n <= lim) : n < fz := by unfold lim at h; unfold fz; omega
theorem Am {α : Type} {p : Prop} [Decidable p] {x : Option α} (h : p) : chk p x = x := by unfold chk; rw [if_pos h]
end Go.Proofs.YtlknpohjnpnodaaGreat
namespace Go.Proofs.YtlknpohjnpnodaaGreat
open Go.RowKit
set_option linter.unusedVariables false
def W4 (u : Value) : V -> V
  | .own _ n cs => .pin u n (erL cs)
  | c => c
def il : V -> Bool
  | .own _ _ _ => true
  | _ => false
def ah : V -> Bool
  | .int _ _ => true
  | .bool _ => true
  | .str _ => true
  | _ => false
def HX : List V -> Bool
  | [] => false
  | c :: cs => (il c && cs.all ah) || (ah c && HX cs)
def Jl : List V -> V
  | [] => .undef
  | c :: cs => match c with
    | .own e n ds => .own e n ds
    | _ => Jl cs
section
variable {P : Program} {w : World} {St : Nat -> Nat -> Prop}
theorem Z0 {c : V} {v : Value} {b : List Nat} (hs : ah c = true) (h : Ow P w St c v b) : b = [] := by
  cases c <;> first | exact h.1 | cases hs
theorem VG {c : V} (u : Value) (hs : ah c = true) : W4 u c = c := by cases c <;> first | rfl | cases hs
theorem VH : ∀ {cs : List V} {us : List Value} {b : List Nat}, cs.all ah = true -> Av P w St cs us b -> b = []
  | [], _, _, _, h => h.2
  | c :: cs, _, _, hs, ⟨u, us', b1, b2, e1, e2, hc, h1, h2⟩ => by
    simp only [List.all_cons, Bool.and_eq_true] at hs
    rw [e2, Z0 hs.1 h1, VH hs.2 h2]; rfl
theorem RQ : ∀ {cs : List V} (u : Value), cs.all ah = true -> cs.map (W4 u) = cs
  | [], _, _ => rfl
  | c :: cs, u, hs => by
    simp only [List.all_cons, Bool.and_eq_true] at hs
    rw [List.map_cons, VG u hs.1, RQ u hs.2]
theorem ZH {e : TypeId} {n : Nat} {cs : List V} {u : Value} {b : List Nat} (h : Ow P w St (.own e n cs) u b) : Ow P w St (.pin u n (erL cs)) u [] := by
  have := Rd.erase _ (Ow.rd (.own e n cs) h rfl)
  exact ⟨rfl, rfl, this⟩
theorem VX : ∀ {ds : List V}, HX ds = true -> ∃ e n cs, Jl ds = .own e n cs
  | [], h => by cases h
  | c :: cs, h => by
    simp only [HX, Bool.or_eq_true, Bool.and_eq_true] at h
    rcases h with ⟨h1, h2⟩ | ⟨h1, h2⟩
    · cases c <;> first | exact ⟨_, _, _, rfl⟩ | cases h1
    · obtain ⟨e, n, cs', e1⟩ := VX h2
      cases c <;> first | (cases h1; done) | exact ⟨e, n, cs', e1⟩
theorem QE : ∀ {ds : List V} {xs : List Value} {b : List Nat}, HX ds = true -> Av P w St ds xs b -> ∃ u, Ow P w St (Jl ds) u b ∧ Av P w St (ds.map (W4 u)) xs []
  | [], _, _, h, _ => by cases h
  | c :: cs, _, _, h, ⟨u, us', b1, b2, e1, e2, hc, h1, h2⟩ => by
    simp only [HX, Bool.or_eq_true, Bool.and_eq_true] at h
    rcases h with ⟨g1, g2⟩ | ⟨g1, g2⟩
    · have hb := VH g2 h2
      subst hb
      rw [List.append_nil] at e2
      subst e2
      cases c <;> first | (cases g1; done) | skip
      refine ⟨u, h1, ?_⟩
      rw [List.map_cons, RQ u g2]
      exact ⟨u, us', [], [], e1, rfl, rfl, ZH h1, h2⟩
    · have hb := Z0 g1 h1
      subst hb
      rw [List.nil_append] at e2
      subst e2
      obtain ⟨u', h3, h4⟩ := QE g2 h2
      refine ⟨u', ?_, ?_⟩
      · cases c <;> first | (cases g1; done) | exact h3
      · rw [List.map_cons, VG u' g1]
        exact ⟨u, us', [], [], e1, rfl, hc, h1, h4⟩
theorem SD : ∀ {ds : List V} {xs : List Value} {b0 b : List Nat} {u : Value}, HX ds = true -> Av P w St (ds.map (W4 u)) xs b0 -> Ow P w St (Jl ds) u b -> Av P w St ds xs b
  | [], _, _, _, _, h, _, _ => by cases h
  | c :: cs, _, _, b, u, h, ⟨u', us', b1, b2, e1, e2, hc, h1, h2⟩, ht => by
    simp only [HX, Bool.or_eq_true, Bool.and_eq_true] at h
    rcases h with ⟨g1, g2⟩ | ⟨g1, g2⟩
    · cases c <;> first | (cases g1; done) | skip
      have hu : u' = u := h1.2.1
      subst hu
      change Av P w St (cs.map (W4 u')) us' b2 at h2
      rw [RQ u' g2] at h2
      have hb := VH g2 h2
      subst hb
      exact ⟨u', us', b, [], e1, by simp, rfl, ht, h2⟩
    · have ht' : Ow P w St (Jl cs) u b := by cases c <;> first | (cases g1; done) | exact ht
      change Ow P w St (W4 u c) u' b1 at h1
      rw [VG u g1] at h1
      have hb := Z0 g1 h1
      subst hb
      have h3 := SD g2 h2 ht'
      have hcc : c.Dv = true := by cases c <;> first | rfl | cases g1
      exact ⟨u', us', [], b, e1, by simp, hcc, h1, h3⟩
end
def AK {α : Type} (k : Nat) : List α -> List (Nat × α)
  | [] => []
  | x :: l => (k, x) :: AK (k + 1) l
def pE {α : Type} (f : α -> List V) (U : Nat -> Value) (p : Nat × α) : List V := (f p.2).map (W4 (U p.1))
def mE {α : Type} (f : α -> List V) (U : Nat -> Value) : Nat × α ⊕ α -> List V
  | .inl p => pE f U p
  | .inr x => f x
def getM {α : Type} : Nat × α ⊕ α -> α
  | .inl p => p.2
  | .inr x => x
def okJ {α : Type} [BEq α] (l : List α) : List (Nat × α ⊕ α) -> List Nat -> Bool
  | [], _ => true
  | .inl p :: L, seen => (match l[p.1]? with
    | some x => x == p.2
    | none => false) && !seen.contains p.1 && okJ l L (p.1 :: seen)
  | .inr _ :: L, seen => okJ l L seen
section
variable {P : Program} {w : World} {St : Nat -> Nat -> Prop} {α : Type} {f : α -> List V}
theorem SF (h1 : ∀ x, HX (f x) = true) : ∀ (l : List α) (k : Nat) {xs : List Value} {bs : List Nat}, Av P w St (l.flatMap f) xs bs ->
    ∃ us : List Value, us.length = l.length ∧ Av P w St (l.map fun x => Jl (f x)) us bs ∧ ∀ U : Nat -> Value, (∀ i, i < l.length -> U (k + i) = us.getD i undef) -> Av P w St ((AK k l).flatMap (pE f U)) xs []
  | [], k, _, _, h => ⟨[], rfl, ⟨rfl, h.2⟩, fun U _ => ⟨h.1, rfl⟩⟩
  | x :: l, k, xs, bs, h => by
    rw [List.flatMap_cons] at h
    obtain ⟨xs1, xs2, b1, b2, rfl, rfl, r1, r2⟩ := h.app
    obtain ⟨u, h3, h4⟩ := QE (h1 x) r1
    obtain ⟨us, hl, h5, h6⟩ := SF h1 l (k + 1) r2
    obtain ⟨e, n, cs, et⟩ := VX (h1 x)
    refine ⟨u :: us, by simp [hl], ⟨u, us, b1, b2, rfl, rfl, by show (Jl (f x)).Dv = true; rw [et]; rfl, h3, h5⟩, fun U hU => ?_⟩
    have hu : U k = u := by have := hU 0 (by simp); simpa using this
    rw [AK, List.flatMap_cons]
    have := Av.join (b1 := []) (b2 := []) (show Av P w St (pE f U (k, x)) xs1 [] by unfold pE; rw [hu]; exact h4) (h6 U (fun i hi => by
      have := hU (i + 1) (by simp; omega)
      have e : k + 1 + i = k + (i + 1) := by omega
      rw [e, this]; simp))
    exact this
theorem QR : ∀ {cs : List V} {us : List Value} {bs : List Nat}, Av P w St cs us bs -> bs.Nodup -> ∃ β : Nat -> List Nat, (∀ i c u, cs[i]? = some c -> us[i]? = some u -> Ow P w St c u (β i)) ∧ (∀ i, ∀ g ∈ β i, g ∈ bs) ∧ (∀ i, (β i).Nodup) ∧ ∀ i j, i ≠ j -> ∀ g ∈ β i, g ∉ β j
  | [], _, _, h, _ => ⟨fun _ => [], by simp, by simp, fun _ => List.nodup_nil, by simp⟩
  | c :: cs, _, _, ⟨u, us', b1, b2, e1, e2, hc, h1, h2⟩, hn => by
    subst e1 e2
    obtain ⟨n1, n2, n3⟩ := List.nodup_append.1 hn
    obtain ⟨β, k1, k2, k3, k4⟩ := QR h2 n2
    refine ⟨fun i => match i with | 0 => b1 | i + 1 => β i, ?_, ?_, ?_, ?_⟩
    · intro i c' u' hc' hu'
      cases i with
      | zero => simp only [List.getElem?_cons_zero, Option.some.injEq] at hc' hu'; subst hc' hu'; exact h1
      | succ i => exact k1 i c' u' (by simpa using hc') (by simpa using hu')
    · intro i g hg
      cases i with
      | zero => exact List.mem_append_left _ hg
      | succ i => exact List.mem_append_right _ (k2 i g hg)
    · intro i
      cases i with
      | zero => exact n1
      | succ i => exact k3 i
    · intro i j hij g hg hg'
      cases i with
      | zero =>
        cases j with
        | zero => exact hij rfl
        | succ j => exact n3 g hg g (k2 j g hg') rfl
      | succ i =>
        cases j with
        | zero => exact n3 g hg' g (k2 i g hg) rfl
        | succ j => exact k4 i j (by omega) g hg hg'
theorem Vi [BEq α] [LawfulBEq α] (h1 : ∀ x, HX (f x) = true) {l : List α} {us : List Value} {bs : List Nat} (ht : Av P w St (l.map fun x => Jl (f x)) us bs) (hn : bs.Nodup) {U : Nat -> Value} (hU : ∀ i, i < l.length -> U i = us.getD i undef) :
    ∀ (L : List (Nat × α ⊕ α)) {xs : List Value} {b0 : List Nat}, okJ l L [] = true -> Av P w St (L.flatMap (mE f U)) xs b0 -> b0.Nodup -> (∀ g ∈ b0, g ∉ bs) -> ∃ b', Av P w St ((L.map getM).flatMap f) xs b' ∧ b'.Nodup ∧ ∀ g ∈ b', g ∈ b0 ∨ g ∈ bs := by
  obtain ⟨β, k1, k2, k3, k4⟩ := QR ht hn
  have hlen := ht.length
  rw [List.length_map] at hlen
  have key : ∀ (L : List (Nat × α ⊕ α)) (seen : List Nat) {xs : List Value} {b0 : List Nat}, okJ l L seen = true -> Av P w St (L.flatMap (mE f U)) xs b0 -> b0.Nodup -> (∀ g ∈ b0, g ∉ bs) ->
      ∃ b', Av P w St ((L.map getM).flatMap f) xs b' ∧ b'.Nodup ∧ (∀ g ∈ b', g ∈ b0 ∨ g ∈ bs) ∧ ∀ i ∈ seen, ∀ g ∈ β i, g ∉ b' := by
    intro L
    induction L with
    | nil =>
      intro seen xs b0 _ h hnb hd
      exact ⟨[], ⟨h.1, rfl⟩, List.nodup_nil, by simp, by simp⟩
    | cons p L ih =>
      intro seen xs b0 hok h hnb hd
      rw [List.flatMap_cons] at h
      obtain ⟨xs1, xs2, b1, b2, rfl, rfl, r1, r2⟩ := h.app
      obtain ⟨n1, n2, n3⟩ := List.nodup_append.1 hnb
      cases p with
      | inr x =>
        simp only [okJ] at hok
        obtain ⟨b', q1, q2, q3, q4⟩ := ih seen hok r2 n2 (fun g hg => hd g (List.mem_append_right _ hg))
        refine ⟨b1 ++ b', ?_, ?_, ?_, ?_⟩
        · rw [List.map_cons, List.flatMap_cons]; exact Av.join r1 q1
        · refine List.nodup_append.2 ⟨n1, q2, fun a ha b hb e => ?_⟩
          subst e
          rcases q3 a hb with h | h
          · exact n3 a ha a h rfl
          · exact hd a (List.mem_append_left _ ha) h
        · intro g hg
          rcases List.mem_append.1 hg with hg | hg
          · exact .inl (List.mem_append_left _ hg)
          · exact (q3 g hg).imp (List.mem_append_right _) id
        · intro i hi g hg hm
          rcases List.mem_append.1 hm with hm | hm
          · exact hd g (List.mem_append_left _ hm) (k2 i g hg)
          · exact q4 i hi g hg hm
      | inl p =>
        simp only [okJ, Bool.and_eq_true, Bool.not_eq_true'] at hok
        obtain ⟨⟨g1, g2⟩, g3⟩ := hok
        obtain ⟨b', q1, q2, q3, q4⟩ := ih (p.1 :: seen) g3 r2 n2 (fun g hg => hd g (List.mem_append_right _ hg))
        have hp : l[p.1]? = some p.2 := by
          split at g1
          · rename_i x hx; rw [hx]; simpa using g1
          · cases g1
        have hpl : p.1 < l.length := by
          rcases Nat.lt_or_ge p.1 l.length with h | h
          · exact h
          · rw [List.getElem?_eq_none h] at hp; cases hp
        have hus : us[p.1]? = some (U p.1) := by
          rw [hU p.1 hpl]
          have : p.1 < us.length := by omega
          simp [this]
        have htok := k1 p.1 _ _ (by rw [List.getElem?_map, hp]; rfl) hus
        have r1' : Av P w St (f p.2) xs1 (β p.1) := SD (h1 p.2) (show Av P w St ((f p.2).map (W4 (U p.1))) xs1 b1 from r1) htok
        refine ⟨β p.1 ++ b', ?_, ?_, ?_, ?_⟩
        · rw [List.map_cons, List.flatMap_cons]; exact Av.join r1' q1
        · refine List.nodup_append.2 ⟨k3 p.1, q2, fun a ha b hb e => ?_⟩
          subst e
          exact q4 p.1 (by simp) a ha hb
        · intro g hg
          rcases List.mem_append.1 hg with hg | hg
          · exact .inr (k2 p.1 g hg)
          · exact (q3 g hg).imp (List.mem_append_right _) id
        · intro i hi g hg hm
          rcases List.mem_append.1 hm with hm | hm
          · have hne : i ≠ p.1 := fun e => by
              subst e
              have : seen.contains p.1 = true := by simpa using hi
              rw [this] at g2; cases g2
            exact k4 i p.1 hne g hg hm
          · exact q4 i (by simp [hi]) g hg hm
  intro L xs b0 hok h hnb hd
  obtain ⟨b', q1, q2, q3, _⟩ := key L [] hok h hnb hd
  exact ⟨b', q1, q2, q3⟩
end
theorem zpE {α : Type} {f : α -> List V} {n : Nat} (h : ∀ x, (f x).length = n) {U : Nat -> Value} (p : Nat × α) : (pE f U p).length = n := by unfold pE; rw [List.length_map, h]
theorem erP {α : Type} {f g : α -> List V} (h : ∀ x, erL (f x) = g x) (hg : ∀ x, erL (g x) = g x) (l : List α) {u : Value} : er (.pin u l.length (erL (l.flatMap f))) = .dat l.length (l.flatMap g) := by rw [er, KQ h, KQ hg]
theorem ZG {α : Type} {f : α -> List V} {U : Nat -> Value} {e : TypeId} {x : List (Nat × α)} : V.own e x.length (x.flatMap (pE f U)) = .own e (x.map (Sum.inl : Nat × α -> Nat × α ⊕ α)).length ((x.map (Sum.inl : Nat × α -> Nat × α ⊕ α)).flatMap (mE f U)) := by
  rw [List.length_map, List.flatMap_map]; rfl
theorem RH {α : Type} {f : α -> List V} {U : Nat -> Value} (l : List (Nat × α)) : (l.flatMap (pE f U)).map dg1 = l.flatMap (pE f U) := by
  rw [List.map_flatMap]
  congr 1
  funext p
  unfold pE
  rw [List.map_map]
  apply List.map_congr_left
  intro c _
  cases c <;> rfl
section
variable {P : Program} {α : Type} {f : α -> List V}
theorem G1 : ∀ (k : Nat) (l : List α), (AK k l).length = l.length
  | _, [] => rfl
  | k, x :: l => by rw [AK, List.length_cons, List.length_cons, G1 (k + 1) l]
def Qi (P : Program) (f : α -> List V) (c : V) (l : List α) (k : Nat) (c' : (Nat -> Value) -> V) : Prop :=
  ∀ w St t v bs, A4 P w St t c v bs -> bs.Nodup -> ∃ us b1 b2, us.length = l.length ∧ Av P w St (l.map fun x => Jl (f x)) us b2 ∧ (b1 ++ b2).Nodup ∧ (∀ g ∈ b1 ++ b2, g ∈ bs) ∧ ∀ U : Nat -> Value, (∀ i, i < l.length -> U (k + i) = us.getD i undef) -> A4 P w St t (c' U) v b1
theorem MU (h1 : ∀ x, HX (f x) = true) {e : TypeId} {l : List α} {k : Nat} {w : World} {St : Nat -> Nat -> Prop} {v : Value} {bs : List Nat} (h : Ow P w St (.own e l.length (l.flatMap f)) v bs) (hn : bs.Nodup) :
    ∃ us b1 b2, us.length = l.length ∧ Av P w St (l.map fun x => Jl (f x)) us b2 ∧ bs = b1 ++ b2 ∧ ∀ U : Nat -> Value, (∀ i, i < l.length -> U (k + i) = us.getD i undef) -> Ow P w St (.own e (AK k l).length ((AK k l).flatMap (pE f U))) v b1 := by
  obtain ⟨hl, xs, bs', hx, hr, hb, hst, h0⟩ := h
  obtain ⟨us, hul, ht, hp⟩ := SF h1 l k hr
  refine ⟨us, v.ownBlock.toList, bs', hul, ht, hb, fun U hU => ?_⟩
  rw [G1]
  refine ⟨hl, xs, [], hx, hp U hU, by simp, hst, fun hz => ?_⟩
  have : l = [] := List.eq_nil_of_length_eq_zero hz
  subst this; rfl
theorem Q1 (h1 : ∀ x, HX (f x) = true) {e : TypeId} {l : List α} {k : Nat} : Qi P f (.own e l.length (l.flatMap f)) l k (fun U => .own e (AK k l).length ((AK k l).flatMap (pE f U))) := by
  intro w St t v bs h hn
  obtain ⟨us, b1, b2, q1, q2, q3, q4⟩ := MU (k := k) h1 (show Ow P w St _ v bs from h) hn
  exact ⟨us, b1, b2, q1, q2, by rw [<- q3]; exact hn, fun g hg => by rw [q3]; exact hg, fun U hU => q4 U hU⟩
theorem VQ (h1 : ∀ x, HX (f x) = true) {e : TypeId} {l : List α} {k : Nat} {A C : List V} : Qi P f (.box (A ++ .own e l.length (l.flatMap f) :: C)) l k (fun U => .box (A ++ .own e (AK k l).length ((AK k l).flatMap (pE f U)) :: C)) := by
  rintro w St t v bs ⟨g, T, bs', arr, e1, e2, hr, rfl, hst⟩ hn
  obtain ⟨us1, us2, p1, p2, eu, eb, r1, r2⟩ := hr.app
  obtain ⟨u, us3, p3, p4, eu2, eb2, hc, r3, r4⟩ := r2
  subst eb eb2
  have hn1 := List.nodup_cons.1 hn
  have hn2 := List.nodup_append.1 hn1.2
  have hn3 := List.nodup_append.1 hn2.2.1
  obtain ⟨us, b1, b2, q1, q2, q3, q4⟩ := MU (k := k) h1 r3 hn3.1
  subst q3
  have hn4 := List.nodup_append.1 hn3.1
  refine ⟨us, g :: (p1 ++ (b1 ++ p4)), b2, q1, q2, ?_, ?_, fun U hU => ⟨g, T, p1 ++ (b1 ++ p4), arr, e1, e2, ?_, rfl, hst⟩⟩
  · rw [List.cons_append, List.nodup_cons]
    refine ⟨fun hm => hn1.1 ?_, ?_⟩
    · simp only [List.mem_append] at hm ⊢
      rcases hm with (h | h | h) | h
      · exact .inl h
      · exact .inr (.inl (.inl h))
      · exact .inr (.inr h)
      · exact .inr (.inl (.inr h))
    · refine List.nodup_append.2 ⟨List.nodup_append.2 ⟨hn2.1, List.nodup_append.2 ⟨hn4.1, hn3.2.1, fun a ha b hb => hn3.2.2 a (List.mem_append_left _ ha) b hb⟩, fun a ha b hb => hn2.2.2 a ha b (by simp only [List.mem_append] at hb ⊢; rcases hb with h | h; exact .inl (.inl h); exact .inr h)⟩, hn4.2.1, fun a ha b hb e => ?_⟩
      subst e
      simp only [List.mem_append] at ha
      rcases ha with h | h | h
      · exact hn2.2.2 a h a (by simp [hb]) rfl
      · exact hn4.2.2 a h a hb rfl
      · exact hn3.2.2 a (List.mem_append_right _ hb) a h rfl
  · intro x hx
    simp only [List.mem_append, List.mem_cons] at hx ⊢
    rcases hx with (h | h | h | h) | h
    · exact .inl h
    · exact .inr (.inl h)
    · exact .inr (.inr (.inl (.inl h)))
    · exact .inr (.inr (.inr h))
    · exact .inr (.inr (.inl (.inr h)))
  · rw [eu, eu2]
    exact Av.join r1 ⟨u, us3, b1, p4, rfl, rfl, rfl, q4 U hU, r4⟩
def TQ (P : Program) [BEq α] (f : α -> List V) (U : Nat -> Value) (c : V) (L : List (Nat × α ⊕ α)) (c' : V) : Prop :=
  ∀ w St t v b1 (l : List α) us bs, A4 P w St t c v b1 -> Av P w St (l.map fun x => Jl (f x)) us bs -> bs.Nodup -> (∀ i, i < l.length -> U i = us.getD i undef) -> okJ l L [] = true -> b1.Nodup -> (∀ g ∈ b1, g ∉ bs) -> ∃ b', A4 P w St t c' v b' ∧ b'.Nodup ∧ ∀ g ∈ b', g ∈ b1 ∨ g ∈ bs
theorem Oc [BEq α] [LawfulBEq α] (h1 : ∀ x, HX (f x) = true) {e : TypeId} {L : List (Nat × α ⊕ α)} {U : Nat -> Value} {w : World} {St : Nat -> Nat -> Prop} {v : Value} {b1 : List Nat} {l : List α} {us : List Value} {bs : List Nat} (h : Ow P w St (.own e L.length (L.flatMap (mE f U))) v b1) (ht : Av P w St (l.map fun x => Jl (f x)) us bs) (hn : bs.Nodup)
    (hU : ∀ i, i < l.length -> U i = us.getD i undef) (hok : okJ l L [] = true) (hb1 : b1.Nodup) (hd : ∀ g ∈ b1, g ∉ bs) : ∃ b', Ow P w St (.own e (L.map getM).length ((L.map getM).flatMap f)) v b' ∧ b'.Nodup ∧ ∀ g ∈ b', g ∈ b1 ∨ g ∈ bs := by
  obtain ⟨hl, xs, bs', hx, hr, rfl, hst, h0⟩ := h
  obtain ⟨n1, n2, n3⟩ := List.nodup_append.1 hb1
  obtain ⟨b', q1, q2, q3⟩ := Vi h1 ht hn hU L hok hr n2 (fun g hg => hd g (List.mem_append_right _ hg))
  refine ⟨v.ownBlock.toList ++ b', ⟨by rw [List.length_map]; exact hl, xs, b', by rw [List.length_map]; exact hx, q1, rfl, by rw [List.length_map]; exact hst, fun hz => ?_⟩, ?_, ?_⟩
  · rw [List.length_map] at hz
    have : L = [] := List.eq_nil_of_length_eq_zero hz
    subst this; rfl
  · refine List.nodup_append.2 ⟨n1, q2, fun a ha b hb e => ?_⟩
    subst e
    rcases q3 a hb with h | h
    · exact n3 a ha a h rfl
    · exact hd a (List.mem_append_left _ ha) h
  · intro g hg
    rcases List.mem_append.1 hg with hg | hg
    · exact .inl (List.mem_append_left _ hg)
    · exact (q3 g hg).imp (List.mem_append_right _) id
theorem WH [BEq α] [LawfulBEq α] (h1 : ∀ x, HX (f x) = true) {e : TypeId} {L : List (Nat × α ⊕ α)} {U : Nat -> Value} : TQ P f U (.own e L.length (L.flatMap (mE f U))) L (.own e (L.map getM).length ((L.map getM).flatMap f)) := by
  intro w St t v b1 l us bs h ht hn hU hok hb1 hd
  obtain ⟨b', q1, q2, q3⟩ := Oc h1 (show Ow P w St _ v b1 from h) ht hn hU hok hb1 hd
  exact ⟨b', q1, q2, q3⟩
theorem Nq [BEq α] [LawfulBEq α] (h1 : ∀ x, HX (f x) = true) {U : Nat -> Value} {p : Nat × α} {e : TypeId} {n : Nat} {cs : List V} (he : f p.2 = [.own e n cs]) : TQ P f U (.pin (U p.1) n (erL cs)) [.inl p] (.own e n cs) := by
  intro w St t v b1 l us bs h ht hn hU hok hb1 hd
  have h2 : Ow P w St (.pin (U p.1) n (erL cs)) v b1 := h
  have hr : Av P w St (([.inl p] : List (Nat × α ⊕ α)).flatMap (mE f U)) [v] b1 := by
    rw [List.flatMap_cons, List.flatMap_nil, List.append_nil]
    show Av P w St ((f p.2).map (W4 (U p.1))) [v] b1
    rw [he]
    exact ⟨v, [], b1, [], rfl, (List.append_nil _).symm, rfl, h2, rfl, rfl⟩
  obtain ⟨b', q1, q2, q3⟩ := Vi h1 ht hn hU _ hok hr hb1 hd
  rw [List.map_cons, List.map_nil, List.flatMap_cons, List.flatMap_nil, List.append_nil] at q1
  rw [show getM (Sum.inl p : Nat × α ⊕ α) = p.2 from rfl, he] at q1
  obtain ⟨u, us', c1, c2, e1, e2, _, q4, q5⟩ := q1
  obtain ⟨rfl, rfl⟩ := List.cons.inj e1
  have : c2 = [] := q5.2
  subst this
  rw [List.append_nil] at e2
  subst e2
  exact ⟨b', q4, q2, q3⟩
theorem WG [BEq α] [LawfulBEq α] (h1 : ∀ x, HX (f x) = true) {e : TypeId} {L : List (Nat × α ⊕ α)} {U : Nat -> Value} {A C : List V} : TQ P f U (.box (A ++ .own e L.length (L.flatMap (mE f U)) :: C)) L (.box (A ++ .own e (L.map getM).length ((L.map getM).flatMap f) :: C)) := by
  rintro w St t v b1 l us bs ⟨g, T, bs', arr, e1, e2, hr, rfl, hst⟩ ht hn hU hok hb1 hd
  obtain ⟨us1, us2, p1, p2, eu, eb, r1, r2⟩ := hr.app
  obtain ⟨u, us3, p3, p4, eu2, eb2, hc, r3, r4⟩ := r2
  subst eb eb2
  have hn1 := List.nodup_cons.1 hb1
  have hn2 := List.nodup_append.1 hn1.2
  have hn3 := List.nodup_append.1 hn2.2.1
  obtain ⟨b', q1, q2, q3⟩ := Oc h1 r3 ht hn hU hok hn3.1 (fun x hx => hd x (by simp [hx]))
  have hgb : g ∉ bs := hd g (by simp)
  refine ⟨g :: (p1 ++ (b' ++ p4)), ⟨g, T, p1 ++ (b' ++ p4), arr, e1, e2, by rw [eu, eu2]; exact Av.join r1 ⟨u, us3, b', p4, rfl, rfl, rfl, q1, r4⟩, rfl, hst⟩, ?_, ?_⟩
  · rw [List.nodup_cons]
    refine ⟨fun hm => ?_, List.nodup_append.2 ⟨hn2.1, List.nodup_append.2 ⟨q2, hn3.2.1, fun a ha b hb e => ?_⟩, fun a ha b hb e => ?_⟩⟩
    · simp only [List.mem_append] at hm
      rcases hm with h | h | h
      · exact hn1.1 (by simp [h])
      · rcases q3 g h with h | h
        · exact hn1.1 (by simp [h])
        · exact hgb h
      · exact hn1.1 (by simp [h])
    · subst e
      rcases q3 a ha with h | h
      · exact hn3.2.2 a h a hb rfl
      · exact hd a (by simp [hb]) h
    · subst e
      rcases List.mem_append.1 hb with hb | hb
      · rcases q3 a hb with h | h
        · exact hn2.2.2 a ha a (by simp [h]) rfl
        · exact hd a (by simp [ha]) h
      · exact hn2.2.2 a ha a (by simp [hb]) rfl
  · intro x hx
    simp only [List.mem_cons, List.mem_append] at hx ⊢
    rcases hx with h | h | h | h
    · exact .inl (.inl h)
    · exact .inl (.inr (.inl h))
    · rcases q3 x h with h | h
      · exact .inl (.inr (.inr (.inl h)))
      · exact .inr h
    · exact .inl (.inr (.inr (.inr h)))
end
section
variable {P : Program} {nt : Nat} {base : Bs} {bx : List Nat} {St St0 : Nat -> Nat -> Prop} {B : Nat -> List Nat} {hand : List Nat} {σ : PS} {a : Act} {w w0 : World}
theorem HD (h : HSim P nt bx base St B [] σ a w) {s q : Nat} (hsq : s ≠ q) (hq : DU (σ q) = none) {c cq : V} {b1 b2 : List Nat} (hc : A4 P w St (tm a) c (tm a s) b1) (hcq : A4 P w St (tm a) cq (tm a q) b2) (hn : (b1 ++ b2).Nodup) (hsub : ∀ g ∈ b1 ++ b2, g ∈ B s ∨ g ∈ B q)
    (hb : (DU c).isSome = (DU (σ s)).isSome) (hrf : Dz c = none) (hbq : DU cq = none) (hrq : Dz cq = none) : HSim P nt bx base St (upd (upd B s b1) q b2) [] (upd (upd σ s c) q cq) a w := by
  have hsome : ∀ cs, DU c = some cs -> ∃ ds, DU (σ s) = some ds := fun cs e => by
    rw [e] at hb
    cases hx : DU (σ s) with
    | none => rw [hx] at hb; cases hb
    | some ds => exact ⟨ds, rfl⟩
  have hsome' : ∀ cs, DU (σ s) = some cs -> ∃ ds, DU c = some ds := fun cs e => by
    rw [e] at hb
    cases hx : DU c with
    | none => rw [hx] at hb; cases hb
    | some ds => exact ⟨ds, rfl⟩
  obtain ⟨n1, n2, n3⟩ := List.nodup_append.1 hn
  have hB : ∀ r, r ≠ s -> r ≠ q -> upd (upd B s b1) q b2 r = B r := fun r h1 h2 => by rw [upd_ne _ _ h2, upd_ne _ _ h1]
  have hBs : upd (upd B s b1) q b2 s = b1 := by rw [upd_ne _ _ hsq, upd_same]
  have hBq : upd (upd B s b1) q b2 q = b2 := upd_same _ _ _
  have hS : ∀ r, r ≠ s -> r ≠ q -> upd (upd σ s c) q cq r = σ r := fun r h1 h2 => by rw [upd_ne _ _ h2, upd_ne _ _ h1]
  have hSs : upd (upd σ s c) q cq s = c := by rw [upd_ne _ _ hsq, upd_same]
  have hSq : upd (upd σ s c) q cq q = cq := upd_same _ _ _
  have hin : ∀ r, (∀ g ∈ upd (upd B s b1) q b2 r, g ∈ B r ∨ ((r = s ∨ r = q) ∧ (g ∈ B s ∨ g ∈ B q))) := fun r g hg => by
    by_cases e1 : r = s
    · subst e1; rw [hBs] at hg; exact .inr ⟨.inl rfl, hsub g (List.mem_append_left _ hg)⟩
    · by_cases e2 : r = q
      · subst e2; rw [hBq] at hg; exact .inr ⟨.inr rfl, hsub g (List.mem_append_right _ hg)⟩
      · rw [hB r e1 e2] at hg; exact .inl hg
  exact
  { h with
    slot := fun r => by
      by_cases e1 : r = s
      · subst e1; rw [hSs, hBs]; exact hc
      · by_cases e2 : r = q
        · subst e2; rw [hSq, hBq]; exact hcq
        · rw [hS r e1 e2, hB r e1 e2]; exact h.slot r
    boxes := fun r cs e => by
      by_cases e1 : r = s
      · subst e1; rw [hSs] at e; obtain ⟨ds, hd⟩ := hsome cs e; exact h.boxes r ds hd
      · by_cases e2 : r = q
        · subst e2; rw [hSq, hbq] at e; cases e
        · rw [hS r e1 e2] at e; exact h.boxes r cs e
    crefs := fun r b e => by
      have hr : Dz (σ r) = some b := by
        by_cases e1 : r = s
        · subst e1; rw [hSs, hrf] at e; cases e
        · by_cases e2 : r = q
          · subst e2; rw [hSq, hrq] at e; cases e
          · rw [hS r e1 e2] at e; exact e
      obtain ⟨cs, hcs⟩ := h.crefs r b hr
      by_cases e1 : b = s
      · subst e1; rw [hSs]; exact hsome' cs hcs
      · by_cases e2 : b = q
        · subst e2; rw [hq] at hcs; cases hcs
        · rw [hS b e1 e2]; exact ⟨cs, hcs⟩
    nodup := fun r => by
      by_cases e1 : r = s
      · subst e1; rw [hBs]; exact n1
      · by_cases e2 : r = q
        · subst e2; rw [hBq]; exact n2
        · rw [hB r e1 e2]; exact h.nodup r
    apart := fun r t hrt g hg hg' => by
      by_cases e1 : (r = s ∨ r = q)
      · by_cases e2 : (t = s ∨ t = q)
        · rcases e1 with rfl | rfl <;> rcases e2 with rfl | rfl
          · exact hrt rfl
          · rw [hBs] at hg; rw [hBq] at hg'; exact n3 g hg g hg' rfl
          · rw [hBq] at hg; rw [hBs] at hg'; exact n3 g hg' g hg rfl
          · exact hrt rfl
        · have ht1 : t ≠ s := fun e => e2 (.inl e)
          have ht2 : t ≠ q := fun e => e2 (.inr e)
          rw [hB t ht1 ht2] at hg'
          rcases hin r g hg with hh | ⟨_, hh⟩
          · exact h.apart r t hrt g hh hg'
          · rcases hh with hh | hh
            · exact h.apart s t (Ne.symm ht1) g hh hg'
            · exact h.apart q t (Ne.symm ht2) g hh hg'
      · have hr1 : r ≠ s := fun e => e1 (.inl e)
        have hr2 : r ≠ q := fun e => e1 (.inr e)
        rw [hB r hr1 hr2] at hg
        rcases hin t g hg' with hh | ⟨_, hh⟩
        · exact h.apart r t hrt g hg hh
        · rcases hh with hh | hh
          · exact h.apart r s hr1 g hg hh
          · exact h.apart r q hr2 g hg hh
    hapart := fun r g hg => by simp
    range := fun r g hg => by
      rcases hin r g hg with hh | ⟨_, hh | hh⟩
      · exact h.range r g hh
      · exact h.range s g hh
      · exact h.range q g hh }
variable {Q : Exit -> PS -> Prop} {α : Type} {f : α -> List V}
theorem UW {x : LC} {s1 s2 g1 g2 : Nat} {l1 l2 : List α} {c1 c2 : V} {c1' c2' : (Nat -> Value) -> V} (hs1 : σ s1 = c1) (hs2 : σ s2 = c2) (hq1 : σ g1 = .undef) (hq2 : σ g2 = .undef) (hne : s1 ≠ s2 ∧ s1 ≠ g1 ∧ s1 ≠ g2 ∧ s2 ≠ g1 ∧ s2 ≠ g2 ∧ g1 ≠ g2) (S1 : Qi P f c1 l1 0 c1') (S2 : Qi P f c2 l2 l1.length c2')
    (hb1 : ∀ U, (DU (c1' U)).isSome = (DU c1).isSome) (hrf1 : ∀ U, Dz (c1' U) = none) (hb2 : ∀ U, (DU (c2' U)).isSome = (DU c2).isSome) (hrf2 : ∀ U, Dz (c2' U) = none)
    (h : ∀ (U : Nat -> Value) (us1 us2 : List Value), us1.length = l1.length -> us2.length = l2.length -> (∀ i, i < (l1 ++ l2).length -> U i = (us1 ++ us2).getD i undef) -> LS P nt bx x (upd (upd (upd (upd σ s1 (c1' U)) g1 (.gh us1 (l1.map fun x => Jl (f x)))) s2 (c2' U)) g2 (.gh us2 (l2.map fun x => Jl (f x)))) Q) : LS P nt bx x σ Q := by
  obtain ⟨n1, n2, n3, n4, n5, n6⟩ := hne
  intro cc hc hok hL base St0 w0 a w hr
  obtain ⟨St, B, hS, r1, r2, r3⟩ := hr
  have h1 := hS.slot s1
  rw [hs1] at h1
  have h2 := hS.slot s2
  rw [hs2] at h2
  obtain ⟨us1, b1, b2, q1, q2, q3, q4, q5⟩ := S1 w St (tm a) (tm a s1) (B s1) h1 (hS.nodup s1)
  obtain ⟨us2, b3, b4, p1, p2, p3, p4, p5⟩ := S2 w St (tm a) (tm a s2) (B s2) h2 (hS.nodup s2)
  have hU1 : ∀ i, i < l1.length -> (fun i => (us1 ++ us2).getD i undef) (0 + i) = us1.getD i undef := fun i hi => by
    have : i < us1.length := by omega
    simp [List.getElem?_append_left this]
  have hU2 : ∀ i, i < l2.length -> (fun i => (us1 ++ us2).getD i undef) (l1.length + i) = us2.getD i undef := fun i hi => by
    simp only [List.getD_eq_getElem?_getD]
    rw [List.getElem?_append_right (by omega), q1, Nat.add_sub_cancel_left]
  have m1 := HD hS n2 (by rw [hq1]; rfl) (q5 (fun i => (us1 ++ us2).getD i undef) hU1) (show A4 P w St (tm a) (.gh us1 (l1.map fun x => Jl (f x))) _ b2 from q2) q3 (fun g hg => .inl (q4 g hg)) (by rw [hs1]; exact hb1 _) (hrf1 _) rfl rfl
  have e1 : upd (upd σ s1 (c1' fun i => (us1 ++ us2).getD i undef)) g1 (.gh us1 (l1.map fun x => Jl (f x))) s2 = c2 := by rw [upd_ne _ _ n4, upd_ne _ _ (Ne.symm n1), hs2]
  have e2 : upd (upd σ s1 (c1' fun i => (us1 ++ us2).getD i undef)) g1 (.gh us1 (l1.map fun x => Jl (f x))) g2 = .undef := by rw [upd_ne _ _ (Ne.symm n6), upd_ne _ _ (Ne.symm n3), hq2]
  have e3 : upd (upd B s1 b1) g1 b2 s2 = B s2 := by rw [upd_ne _ _ n4, upd_ne _ _ (Ne.symm n1)]
  have m2 := HD m1 n5 (by rw [e2]; rfl) (p5 (fun i => (us1 ++ us2).getD i undef) hU2) (show A4 P w St (tm a) (.gh us2 (l2.map fun x => Jl (f x))) _ b4 from p2) p3 (fun g hg => .inl (by rw [e3]; exact p4 g hg)) (by rw [e1]; exact hb2 _) (hrf2 _) rfl rfl
  exact h (fun i => (us1 ++ us2).getD i undef) us1 us2 q1 p1 (fun i _ => rfl) cc hc hok hL base St0 w0 a w ⟨St, _, m2, r1, r2, r3⟩
theorem WR {x : LC} {g1 g2 : Nat} {us1 us2 : List Value} {cs1 cs2 : List V} (h1 : σ g1 = .gh us1 cs1) (h2 : σ g2 = .gh us2 cs2) (hne : g1 ≠ g2) (h : LS P nt bx x (upd (upd σ g1 (.gh (us1 ++ us2) (cs1 ++ cs2))) g2 .undef) Q) : LS P nt bx x σ Q := by
  intro cc hc hok hL base St0 w0 a w hr
  obtain ⟨St, B, hS, r1, r2, r3⟩ := hr
  have k1 := hS.slot g1
  rw [h1] at k1
  have k2 := hS.slot g2
  rw [h2] at k2
  refine h cc hc hok hL base St0 w0 a w ⟨St, _, HD hS hne (by rw [h2]; rfl) (show A4 P w St (tm a) (.gh (us1 ++ us2) (cs1 ++ cs2)) _ (B g1 ++ B g2) from Av.join k1 k2) (show A4 P w St (tm a) .undef _ [] from rfl) ?_ (fun g hg => ?_) (by rw [h1]; rfl) rfl rfl rfl, r1, r2, r3⟩
  · rw [List.append_nil]
    exact List.nodup_append.2 ⟨hS.nodup g1, hS.nodup g2, fun a ha b hb e => by subst e; exact hS.apart g1 g2 hne a ha hb⟩
  · rw [List.append_nil] at hg
    exact List.mem_append.1 hg
theorem L4 [BEq α] {x : LC} {s q : Nat} {l : List α} {us : List Value} {U : Nat -> Value} {L : List (Nat × α ⊕ α)} {c c' : V} {cs : List V} (hs : σ s = c) (hq : σ q = .gh us cs) (hcs : cs = l.map fun x => Jl (f x)) (hsq : s ≠ q) (J : TQ P f U c L c') (hU : ∀ i, i < l.length -> U i = us.getD i undef) (hok : okJ l L [] = true)
    (hb : (DU c').isSome = (DU c).isSome) (hrf : Dz c' = none) (h : LS P nt bx x (upd (upd σ s c') q .undef) Q) : LS P nt bx x σ Q := by
  intro cc hc hok' hL base St0 w0 a w hr
  obtain ⟨St, B, hS, r1, r2, r3⟩ := hr
  have k1 := hS.slot s
  rw [hs] at k1
  have k2 := hS.slot q
  rw [hq, hcs] at k2
  obtain ⟨b', q1, q2, q3⟩ := J w St (tm a) (tm a s) (B s) l us (B q) k1 k2 (hS.nodup q) hU hok (hS.nodup s) (fun g hg => hS.apart s q hsq g hg)
  exact h cc hc hok' hL base St0 w0 a w ⟨St, _, HD hS hsq (by rw [hq]; rfl) q1 (show A4 P w St (tm a) .undef _ [] from rfl) (by rw [List.append_nil]; exact q2) (fun g hg => by rw [List.append_nil] at hg; exact q3 g hg) (by rw [hs]; exact hb) hrf rfl rfl, r1, r2, r3⟩
end
end Go.Proofs.YtlknpohjnpnodaaGreat
namespace Go.Proofs.YtlknpohjnpnodaaGreat
open Go.RowKit
set_option linter.unusedVariables false
def Gh (P : Program) (nt : Nat) (bx : List Nat) (σ : PS) (K : PS -> Prop) : Prop := ∀ base St0 w0 a w, Rel P nt bx base St0 w0 σ a w -> ∃ σ', K σ' ∧ Rel P nt bx base St0 w0 σ' a w
def ghQ (P : Program) (nt : Nat) (bx : List Nat) (Q : Exit -> PS -> Prop) : Exit -> PS -> Prop
  | .normal, σ => Gh P nt bx σ (Q .normal)
  | e, σ => Q e σ
section
variable {P : Program} {nt : Nat} {bx : List Nat} {σ : PS} {K : PS -> Prop} {Q : Exit -> PS -> Prop} {x : LC}
theorem Rx (h : K σ) : Gh P nt bx σ K := fun _ _ _ _ _ hr => ⟨σ, h, hr⟩
theorem LZ (h : LS P nt bx x σ (ghQ P nt bx Q)) : LS P nt bx x σ Q := by
  intro c hc hok hL base St0 w0 a w hr
  refine wp_mono (h c hc hok hL base St0 w0 a w hr) ?_
  rintro e a' w' ⟨σ', h1, h2⟩
  cases e with
  | normal => exact h1 base St0 w0 a' w' h2
  | _ => exact ⟨σ', h1, h2⟩
theorem Ks (h : Gh P nt bx σ (fun σ' => LS P nt bx x σ' Q)) : LS P nt bx x σ Q := by
  intro c hc hok hL base St0 w0 a w hr
  obtain ⟨σ', h1, h2⟩ := h base St0 w0 a w hr
  exact h1 c hc hok hL base St0 w0 a w h2
def V9 (P : Program) (c : V) (e : TypeId) (n : Nat) (cs : List V) (c' : Value -> V) : Prop :=
  ∀ w St (t : Nat -> Value) v bs, A4 P w St t c v bs -> bs.Nodup -> ∃ u b1 b2, Ow P w St (.own e n cs) u b2 ∧ (b1 ++ b2).Nodup ∧ (∀ g ∈ b1 ++ b2, g ∈ bs) ∧ A4 P w St t (c' u) v b1
theorem SI {w : World} {St : Nat -> Nat -> Prop} {e : TypeId} {n : Nat} {cs : List V} {u : Value} {b : List Nat} (h : Ow P w St (.own e n cs) u b) : Ow P w St (.tok u) u [] := ⟨rfl, rfl, (Ow.rd (.own e n cs) h rfl).oneCell⟩
theorem Vk {w : World} {St : Nat -> Nat -> Prop} {e : TypeId} {n : Nat} {cs : List V} {u : Value} {b : List Nat} (h : Ow P w St (.own e n cs) u b) (hn : 0 < n) : ∃ g m, u = .slice (some ⟨g, 0, none⟩) n m := by
  obtain ⟨_, xs, bs', hrow, _⟩ := h
  rcases hrow.2 with ⟨_, h0⟩ | ⟨g, cap, cur, eg, _⟩
  · omega
  · exact ⟨g, cap, eg⟩
theorem Sq {e : TypeId} {n : Nat} {cs A C : List V} : V9 P (.box (A ++ .own e n cs :: C)) e n cs (fun u => .box (A ++ .tok u :: C)) := by
  rintro w St t v bs ⟨g, T, bs', arr, e1, e2, hr, rfl, hst⟩ hn
  obtain ⟨us1, us2, p1, p2, eu, eb, r1, r2⟩ := hr.app
  obtain ⟨u, us3, p3, p4, eu2, eb2, hc, r3, r4⟩ := r2
  subst eb eb2
  have hn1 := List.nodup_cons.1 hn
  have hn2 := List.nodup_append.1 hn1.2
  have hn3 := List.nodup_append.1 hn2.2.1
  refine ⟨u, g :: (p1 ++ p4), p3, r3, ?_, ?_, g, T, p1 ++ p4, arr, e1, e2, ?_, rfl, hst⟩
  · rw [List.cons_append, List.nodup_cons]
    refine ⟨fun hm => hn1.1 ?_, List.nodup_append.2 ⟨List.nodup_append.2 ⟨hn2.1, hn3.2.1, fun a ha b hb => hn2.2.2 a ha b (List.mem_append_right _ hb)⟩, hn3.1, fun a ha b hb e => ?_⟩⟩
    · simp only [List.mem_append] at hm ⊢
      rcases hm with (h | h) | h
      · exact .inl h
      · exact .inr (.inr h)
      · exact .inr (.inl h)
    · rcases List.mem_append.1 ha with ha | ha
      · exact hn2.2.2 a ha b (List.mem_append_left _ hb) e
      · exact hn3.2.2 b hb a ha e.symm
  · intro k hk
    simp only [List.cons_append, List.mem_cons, List.mem_append] at hk ⊢
    rcases hk with h | (h | h) | h
    · exact .inl h
    · exact .inr (.inl h)
    · exact .inr (.inr (.inr h))
    · exact .inr (.inr (.inl h))
  · rw [eu, eu2]
    have := Av.join r1 (show Av P w St (.tok u :: C) (u :: us3) p4 from ⟨u, us3, [], p4, rfl, by simp, rfl, SI r3, r4⟩)
    exact this
theorem Ux {s q : Nat} {c : V} {e : TypeId} {n : Nat} {cs : List V} {c' : Value -> V} (hs : σ s = c) (hq : σ q = .undef) (hsq : s ≠ q) (L : V9 P c e n cs c') (hn : 0 < n) (hb : ∀ u, (DU (c' u)).isSome = (DU c).isSome) (hrf : ∀ u, Dz (c' u) = none)
    (h : ∀ g m, Gh P nt bx (upd (upd σ s (c' (.slice (some ⟨g, 0, none⟩) n m))) q (.gh [.slice (some ⟨g, 0, none⟩) n m] [.own e n cs])) K) : Gh P nt bx σ K := by
  rintro base St0 w0 a w ⟨St, B, hS, r1, r2, r3⟩
  have h1 := hS.slot s
  rw [hs] at h1
  obtain ⟨u, b1, b2, q1, q2, q3, q4⟩ := L w St (tm a) (tm a s) (B s) h1 (hS.nodup s)
  obtain ⟨g, m, rfl⟩ := Vk q1 hn
  exact h g m base St0 w0 a w ⟨St, _, HD hS hsq (by rw [hq]; rfl) q4 (show A4 P w St (tm a) (.gh [_] [_]) _ b2 from ⟨_, [], b2, [], rfl, by simp, rfl, q1, rfl, rfl⟩) q2 (fun g hg => .inl (q3 g hg)) (by rw [hs]; exact hb _) (hrf _) rfl rfl, r1, r2, r3⟩
theorem WD {s q : Nat} {c : V} {e : TypeId} {n : Nat} {cs : List V} {c' : Value -> V} (hs : σ s = c) (hq : σ q = .undef) (hsq : s ≠ q) (L : V9 P c e n cs c') (hb : ∀ u, (DU (c' u)).isSome = (DU c).isSome) (hrf : ∀ u, Dz (c' u) = none)
    (h : ∀ u, Gh P nt bx (upd (upd σ s (c' u)) q (.gh [u] [.own e n cs])) K) : Gh P nt bx σ K := by
  rintro base St0 w0 a w ⟨St, B, hS, r1, r2, r3⟩
  have h1 := hS.slot s
  rw [hs] at h1
  obtain ⟨u, b1, b2, q1, q2, q3, q4⟩ := L w St (tm a) (tm a s) (B s) h1 (hS.nodup s)
  exact h u base St0 w0 a w ⟨St, _, HD hS hsq (by rw [hq]; rfl) q4 (show A4 P w St (tm a) (.gh [_] [_]) _ b2 from ⟨_, [], b2, [], rfl, by simp, rfl, q1, rfl, rfl⟩) q2 (fun g hg => .inl (q3 g hg)) (by rw [hs]; exact hb _) (hrf _) rfl rfl, r1, r2, r3⟩
def V8 (P : Program) (c' : V) (u : Value) (e : TypeId) (n : Nat) (cs : List V) (c : V) : Prop :=
  ∀ w St (t : Nat -> Value) v b1 b2, A4 P w St t c' v b1 -> Ow P w St (.own e n cs) u b2 -> (b1 ++ b2).Nodup -> ∃ bs, bs.Nodup ∧ (∀ g ∈ bs, g ∈ b1 ++ b2) ∧ A4 P w St t c v bs
theorem Wu {u : Value} {e : TypeId} {n : Nat} {cs : List V} : V8 P (.tok u) u e n cs (.own e n cs) := by
  intro w St t v b1 b2 h1 h2 hn
  have hv : v = u := h1.2.1
  subst hv
  exact ⟨b2, (List.nodup_append.1 hn).2.1, fun g hg => List.mem_append_right _ hg, h2⟩
theorem Wt {u : Value} {e : TypeId} {n : Nat} {cs A C : List V} : V8 P (.box (A ++ .tok u :: C)) u e n cs (.box (A ++ .own e n cs :: C)) := by
  rintro w St t v b1 b2 ⟨g, T, bs', arr, e1, e2, hr, rfl, hst⟩ h2 hn
  obtain ⟨us1, us2, p1, p2, eu, eb, r1, r2⟩ := hr.app
  obtain ⟨u', us3, p3, p4, eu2, eb2, hc, r3, r4⟩ := r2
  obtain ⟨hp3, hu, _⟩ := r3
  subst hu hp3 eb eb2
  have hn1 := List.nodup_append.1 hn
  have hn2 := List.nodup_cons.1 hn1.1
  have hn3 := List.nodup_append.1 hn2.2
  refine ⟨g :: (p1 ++ (b2 ++ p2)), ?_, ?_, g, T, p1 ++ (b2 ++ p2), arr, e1, e2, ?_, rfl, hst⟩
  · refine List.nodup_cons.2 ⟨fun hm => ?_, List.nodup_append.2 ⟨hn3.1, List.nodup_append.2 ⟨hn1.2.1, hn3.2.1, fun a ha b hb e => hn1.2.2 b (List.mem_cons_of_mem _ (List.mem_append_right _ hb)) a ha e.symm⟩, fun a ha b hb e => ?_⟩⟩
    · simp only [List.mem_append] at hm
      rcases hm with h | h | h
      · exact hn2.1 (List.mem_append_left _ h)
      · exact hn1.2.2 g (List.mem_cons_self) g h rfl
      · exact hn2.1 (List.mem_append_right _ h)
    · rcases List.mem_append.1 hb with hb | hb
      · exact hn1.2.2 a (List.mem_cons_of_mem _ (List.mem_append_left _ ha)) b hb e
      · exact hn3.2.2 a ha b hb e
  · intro k hk
    simp only [List.cons_append, List.mem_cons, List.mem_append] at hk ⊢
    rcases hk with h | h | h | h
    · exact .inl h
    · exact .inr (.inl (.inl h))
    · exact .inr (.inr h)
    · exact .inr (.inl (.inr h))
  · rw [eu, eu2]
    exact Av.join r1 (show Av P w St (.own e n cs :: C) (u' :: us3) (b2 ++ p2) from ⟨u', us3, b2, p2, rfl, rfl, rfl, h2, r4⟩)
theorem Rw {s q : Nat} {u : Value} {e : TypeId} {n : Nat} {cs : List V} {c c' : V} (hs : σ s = c') (hq : σ q = .gh [u] [.own e n cs]) (hsq : s ≠ q) (D : V8 P c' u e n cs c) (hb : (DU c).isSome = (DU c').isSome) (hrf : Dz c = none)
    (h : Gh P nt bx (upd (upd σ s c) q .undef) K) : Gh P nt bx σ K := by
  rintro base St0 w0 a w ⟨St, B, hS, r1, r2, r3⟩
  have h1 := hS.slot s
  rw [hs] at h1
  have h2 := hS.slot q
  rw [hq] at h2
  obtain ⟨u', us', b1, b2, eu, eb, _, hOw, hnil⟩ := h2
  simp only [List.cons.injEq] at eu
  obtain ⟨rfl, rfl⟩ := eu
  have hb2 : b2 = [] := hnil.2
  subst hb2
  rw [List.append_nil] at eb
  have hnd : (B s ++ b1).Nodup := List.nodup_append.2 ⟨hS.nodup s, by have := hS.nodup q; rwa [eb] at this, fun x hx y hy e => by subst e; exact hS.apart s q hsq x hx (by rw [eb]; exact hy)⟩
  obtain ⟨bs, q1, q2, q3⟩ := D w St (tm a) (tm a s) (B s) b1 h1 hOw hnd
  exact h base St0 w0 a w ⟨St, _, HD hS hsq (by rw [hq]; rfl) q3 (show A4 P w St (tm a) .undef _ [] from rfl) (by simpa using q1) (fun g hg => by
    rw [List.append_nil] at hg
    rcases List.mem_append.1 (q2 g hg) with hh | hh
    · exact .inl hh
    · exact .inr (by rw [eb]; exact hh)) (by rw [hs]; exact hb) hrf rfl rfl, r1, r2, r3⟩
theorem QX {α : Type} {cs : List α} {k : Nat} {c : α} (hk : cs[k]? = some c) (x : α) : cs = cs.take k ++ c :: cs.drop (k + 1) ∧ cs.set k x = cs.take k ++ x :: cs.drop (k + 1) := by
  obtain ⟨hlt, he⟩ := List.getElem?_eq_some_iff.1 hk
  refine ⟨?_, by rw [List.set_eq_take_append_cons_drop, if_pos hlt]⟩
  rw [<- he, <- List.drop_eq_getElem_cons hlt, List.take_append_drop]
theorem SM (a b c d : List Nat) : (a ++ (b ++ d) ++ c).Perm (a ++ (b ++ (c ++ d))) := by
  rw [List.append_assoc, List.append_assoc]
  exact List.Perm.append_left _ (List.Perm.append_left _ List.perm_append_comm)
theorem Zg {u1 : Value} {e e2 : TypeId} {n m k : Nat} {cs row : List V} (hk : cs[k]? = some (.own e2 m row)) : V9 P (.gh [u1] [.own e n cs]) e2 m row (fun u => .gh [u1] [.own e n (cs.set k (.tok u))]) := by
  rintro w St t v bs ⟨u, us', b1, b2, eu, eb, hc, ⟨hn, xs, bs', hrow, hxs, hb1, hSt, h0⟩, hnil⟩ hnd
  simp only [List.cons.injEq] at eu
  obtain ⟨rfl, rfl⟩ := eu
  have hb2 : b2 = [] := hnil.2
  subst hb2
  rw [List.append_nil] at eb
  subst eb
  have hlt := (List.getElem?_eq_some_iff.1 hk).1
  have e0 := fun x => QX hk x
  rw [(e0 .undef).1] at hxs
  obtain ⟨us1, us2, p1, p2, eu, eb2, r1, r2⟩ := Av.app hxs
  obtain ⟨u', us3, p3, p4, eu2, eb3, hc', r3, r4⟩ := r2
  subst eb3 eb2 hb1
  have hp := SM u1.ownBlock.toList p1 p3 p4
  refine ⟨u', u1.ownBlock.toList ++ (p1 ++ p4), p3, r3, hp.nodup_iff.2 hnd, fun g hg => hp.mem_iff.1 hg, u1, [], _, [], rfl, (List.append_nil _).symm, rfl, ⟨hn, xs, p1 ++ p4, hrow, ?_, rfl, hSt, fun hz => ?_⟩, rfl, rfl⟩
  · rw [(e0 (.tok u')).2, eu, eu2]
    exact Av.join r1 (show Av P w St (.tok u' :: _) (u' :: us3) p4 from ⟨u', us3, [], p4, rfl, by simp, rfl, SI r3, r4⟩)
  · have := h0 hz
    subst this
    simp at hlt
theorem YG {u1 u2 : Value} {e e2 : TypeId} {n m k : Nat} {cs row : List V} (hk : cs[k]? = some (.tok u2)) : V8 P (.gh [u1] [.own e n cs]) u2 e2 m row (.gh [u1] [.own e n (cs.set k (.own e2 m row))]) := by
  rintro w St t v c1 c2 ⟨u, us', b1, b2, eu, eb, hc, ⟨hn, xs, bs', hrow, hxs, hb1, hSt, h0⟩, hnil⟩ h2 hnd
  simp only [List.cons.injEq] at eu
  obtain ⟨rfl, rfl⟩ := eu
  have hb2 : b2 = [] := hnil.2
  subst hb2
  rw [List.append_nil] at eb
  subst eb
  have hlt := (List.getElem?_eq_some_iff.1 hk).1
  have e0 := fun x => QX hk x
  rw [(e0 .undef).1] at hxs
  obtain ⟨us1, us2, p1, p2, eu, eb2, r1, r2⟩ := Av.app hxs
  obtain ⟨u', us3, p3, p4, eu2, eb3, hc', r3, r4⟩ := r2
  obtain ⟨hp3, hu, _⟩ := r3
  subst hu hp3 eb3 eb2 hb1
  have hp := SM u1.ownBlock.toList p1 c2 p2
  refine ⟨u1.ownBlock.toList ++ (p1 ++ (c2 ++ p2)), hp.nodup_iff.1 (by simpa using hnd), fun g hg => by have := hp.mem_iff.2 hg; simpa using this, u1, [], _, [], rfl, (List.append_nil _).symm, rfl, ⟨hn, xs, p1 ++ (c2 ++ p2), hrow, ?_, rfl, hSt, fun hz => ?_⟩, rfl, rfl⟩
  · rw [(e0 (.own e2 m row)).2, eu, eu2]
    exact Av.join r1 (show Av P w St (.own e2 m row :: _) (u' :: us3) (c2 ++ p2) from ⟨u', us3, c2, p2, rfl, rfl, rfl, h2, r4⟩)
  · have := h0 hz
    subst this
    simp at hlt
variable {α : Type} {f : α -> List V}
theorem WE {s q : Nat} {l : List α} {c : V} {c' : (Nat -> Value) -> V} (hs : σ s = c) (hq : σ q = .undef) (hsq : s ≠ q) (S : Qi P f c l 0 c') (hb : ∀ U, (DU (c' U)).isSome = (DU c).isSome) (hrf : ∀ U, Dz (c' U) = none)
    (h : ∀ (U : Nat -> Value) (us : List Value), us.length = l.length -> (∀ i, i < l.length -> U i = us.getD i undef) -> Gh P nt bx (upd (upd σ s (c' U)) q (.gh us (l.map fun x => Jl (f x)))) K) : Gh P nt bx σ K := by
  rintro base St0 w0 a w ⟨St, B, hS, r1, r2, r3⟩
  have h1 := hS.slot s
  rw [hs] at h1
  obtain ⟨us, b1, b2, q1, q2, q3, q4, q5⟩ := S w St (tm a) (tm a s) (B s) h1 (hS.nodup s)
  have hU : ∀ i, i < l.length -> (fun i => us.getD i undef) (0 + i) = us.getD i undef := fun i _ => by simp
  exact h (fun i => us.getD i undef) us q1 (fun i _ => rfl) base St0 w0 a w ⟨St, _, HD hS hsq (by rw [hq]; rfl) (q5 (fun i => us.getD i undef) hU) (show A4 P w St (tm a) (.gh us _) _ b2 from q2) q3 (fun g hg => .inl (q4 g hg)) (by rw [hs]; exact hb _) (hrf _) rfl rfl, r1, r2, r3⟩
theorem YN [BEq α] {s q : Nat} {l : List α} {us : List Value} {U : Nat -> Value} {L : List (Nat × α ⊕ α)} {c c' : V} {cs : List V} (hs : σ s = c) (hq : σ q = .gh us cs) (hcs : cs = l.map fun x => Jl (f x)) (hsq : s ≠ q) (J : TQ P f U c L c') (hU : ∀ i, i < l.length -> U i = us.getD i undef) (hok : okJ l L [] = true)
    (hb : (DU c').isSome = (DU c).isSome) (hrf : Dz c' = none) (h : Gh P nt bx (upd (upd σ s c') q .undef) K) : Gh P nt bx σ K := by
  rintro base St0 w0 a w ⟨St, B, hS, r1, r2, r3⟩
  have k1 := hS.slot s
  rw [hs] at k1
  have k2 := hS.slot q
  rw [hq, hcs] at k2
  obtain ⟨b', q1, q2, q3⟩ := J w St (tm a) (tm a s) (B s) l us (B q) k1 k2 (hS.nodup q) hU hok (hS.nodup s) (fun g hg => hS.apart s q hsq g hg)
  exact h base St0 w0 a w ⟨St, _, HD hS hsq (by rw [hq]; rfl) q1 (show A4 P w St (tm a) .undef _ [] from rfl) (by rw [List.append_nil]; exact q2) (fun g hg => by rw [List.append_nil] at hg; exact q3 g hg) (by rw [hs]; exact hb) hrf rfl rfl, r1, r2, r3⟩
end
end Go.Proofs.YtlknpohjnpnodaaGreat
namespace Go.Proofs.YtlknpohjnpnodaaGreat
open Go.RowKit
set_option linter.unusedVariables false
mutual
def Qg : V -> V
  | .dat n cs => .arg n (I4 cs)
  | .agg cs => .agg (I4 cs)
  | .int k n => .int k n
  | .bool b => .bool b
  | .str s => .str s
  | .fn f => .fn f
  | _ => .undef
def I4 : List V -> List V
  | [] => []
  | c :: cs => Qg c :: I4 cs
end
mutual
def Ml : V -> Bool
  | .dat _ cs => CB cs
  | .int _ _ => true
  | .bool _ => true
  | .str _ => true
  | .fn _ => true
  | _ => false
def CB : List V -> Bool
  | [] => true
  | c :: cs => Ml c && CB cs
end
def IG : V -> Bool
  | .agg cs => CB cs
  | c => Ml c
section
variable {P : Program} {w : World} {St : Nat -> Nat -> Prop}
theorem TU {cs : List V} : I4 cs ≠ [] -> cs ≠ [] := fun h e => h (by subst e; rfl)
mutual
theorem Rd.KY (hst : ∀ b o, St b o -> b < w.heap.size) : ∀ (c : V) {v : Value}, Ml c = true -> Rd w St c v -> Rd w (fun b o => St b o ∨ b < w.heap.size) (Qg c) v
  | .int _ _, _, _, h => h
  | .bool _, _, _, h => h
  | .str _, _, _, h => h
  | .fn _, _, _, h => h
  | .dat _ cs, _, ha, ⟨hn, A, c, e, hc, h, h0⟩ => ⟨hn, A, c, e, hc, fun hp => let ⟨b, off, ea, hr⟩ := h hp; ⟨b, off, ea, fun hne o => .inr (Cm.blk hst b off cs (TU hne) hr), Cm.KY hst b off cs ha hr⟩, fun hz => by rw [h0 hz]; rfl⟩
  | .own _ _ _, _, ha, _ => by cases ha
  | .pin _ _ _, _, ha, _ => by cases ha
  | .arg _ _, _, ha, _ => by cases ha
  | .agg _, _, ha, _ => by cases ha
  | .tup _, _, ha, _ => by cases ha
  | .box _, _, ha, _ => by cases ha
  | .uni _ _ _, _, ha, _ => by cases ha
  | .same _, _, ha, _ => by cases ha
  | .cref _ _, _, ha, _ => by cases ha
  | .adr _ _, _, ha, _ => by cases ha
  | .gh _ _, _, ha, _ => by cases ha
  | .tok _, _, ha, _ => by cases ha
  | .undef, _, ha, _ => by cases ha
theorem Cm.KY (hst : ∀ b o, St b o -> b < w.heap.size) (b : Nat) : ∀ (off : Nat) (cs : List V), CB cs = true -> Cm w St b off cs -> Cm w (fun b o => St b o ∨ b < w.heap.size) b off (I4 cs)
  | _, [], _, _ => trivial
  | off, c :: cs, ha, ⟨⟨h1, u, hu, hr⟩, h2⟩ => by
    rw [CB, Bool.and_eq_true] at ha
    exact ⟨⟨.inl h1, u, hu, Rd.KY hst c ha.1 hr⟩, Cm.KY hst b (off + 1) cs ha.2 h2⟩
theorem Cm.blk (hst : ∀ b o, St b o -> b < w.heap.size) (b : Nat) : ∀ (off : Nat) (cs : List V), cs ≠ [] -> Cm w St b off cs -> b < w.heap.size
  | _, [], h, _ => absurd rfl h
  | off, _ :: _, _, ⟨⟨h1, _⟩, _⟩ => hst b off h1
end
theorem RdL.KY (hst : ∀ b o, St b o -> b < w.heap.size) : ∀ (cs : List V) {us : List Value}, CB cs = true -> RdL w St cs us -> RdL w (fun b o => St b o ∨ b < w.heap.size) (I4 cs) us
  | [], _, _, h => h
  | c :: cs, _, ha, ⟨u, us', e, h1, h2⟩ => by
    rw [CB, Bool.and_eq_true] at ha
    exact ⟨u, us', e, Rd.KY hst c ha.1 h1, RdL.KY hst cs ha.2 h2⟩
theorem RdA.KY (hst : ∀ b o, St b o -> b < w.heap.size) {c : V} {v : Value} (ha : IG c = true) (h : RdA w St c v) : RdA w (fun b o => St b o ∨ b < w.heap.size) (Qg c) v := by
  cases c <;> first | exact Rd.KY hst _ ha h | (cases ha; done) | skip
  obtain ⟨us, e, h⟩ := h
  exact ⟨us, e, RdL.KY hst _ ha h⟩
theorem RU.KY (hst : ∀ b o, St b o -> b < w.heap.size) : ∀ {args : List V} {vs : List Value}, args.all IG = true -> RU w St args vs -> RU w (fun b o => St b o ∨ b < w.heap.size) (args.map Qg) vs
  | [], _, _, h => h
  | c :: args, _, ha, ⟨u, us', e, h1, h2⟩ => by
    simp only [List.all_cons, Bool.and_eq_true] at ha
    exact ⟨u, us', e, RdA.KY hst ha.1 h1, RU.KY hst ha.2 h2⟩
end
theorem OP {c : V} (h : Ml c = true) : Ig (Qg c) = true := by
  cases c <;> first | rfl | cases h
theorem OQ : ∀ {cs : List V}, CB cs = true -> (I4 cs).all Ig = true
  | [], _ => rfl
  | c :: cs, h => by
    rw [CB, Bool.and_eq_true] at h
    rw [I4, List.all_cons, OP h.1, OQ h.2]; rfl
theorem Td {c : V} (h : IG c = true) : J8 (Qg c) = true := by
  cases c <;> first | exact OP h | (cases h; done) | skip
  exact OQ (show CB _ = true from h)
def Wr : V -> Bool
  | .tup cs => HV cs
  | c => deep c
section
variable {P : Program} {w w' : World} {St St' : Nat -> Nat -> Prop}
theorem IF.kept : ∀ (cs : List V) {us : List Value} {bs : List Nat}, HV cs = true -> IF P w St cs us bs -> (∀ g ∈ bs, w'.heap[g]? = w.heap[g]? ∧ ∀ o, St' g o ↔ St g o) -> IF P w' St' cs us bs
  | [], _, _, _, h, _ => h
  | c :: cs, _, _, hd, ⟨u, us', b1, b2, e1, e2, h1, h2⟩, hb => by
    have hd' : deep c = true ∧ HV cs = true := by simpa [HV] using hd
    exact ⟨u, us', b1, b2, e1, e2, Ow.kept c hd'.1 h1 (fun g hg => hb g (by rw [e2]; exact List.mem_append_left _ hg)), IF.kept cs hd'.2 h2 (fun g hg => hb g (by rw [e2]; exact List.mem_append_right _ hg))⟩
theorem Tl {c : V} {v : Value} {bs : List Nat} (hd : Wr c = true) (h : Ow P w St c v bs) (hb : ∀ g ∈ bs, w'.heap[g]? = w.heap[g]? ∧ ∀ o, St' g o ↔ St g o) : Ow P w' St' c v bs := by
  cases c <;> first | exact Ow.kept _ hd h hb | skip
  obtain ⟨us, e, h⟩ := h
  exact ⟨us, e, IF.kept _ hd h hb⟩
end
section
variable {P : Program} {tb : Tb}
theorem VO (htb : J7 P tb) {f : FuncId} {fn : Func} {c : Code} {args : List V} {r : V} (hf : P.funcs[f]? = some fn) (hb : fn.body = some c) (hname : (fn.name == "runtime.NumGoroutine") = false) (bx : List Nat) (hlen : args.length <= fn.ntmps) (hargs : args.all IG = true) (hr : Wr r = true)
    (hn : (fn.results.toList.map Ii).Nodup) (h : Jv P fn.ntmps bx c (Iw (args.map Qg)) (fun e σ => (e = .ret ∨ e = .normal) ∧ Xb tb σ fn.results.toList = some r)) : Ah P f args r := by
  refine ⟨⟨fn, hf, by rw [hb]; rfl, hname⟩, fun w St vs hst hvs => ?_⟩
  have hvs' := RU.KY hst hargs hvs
  have hst' : ∀ b o, (St b o ∨ b < w.heap.size) -> b < w.heap.size := fun b o h => h.elim (hst b o) id
  have hpl : (args.map Qg).all J8 = true := by
    rw [List.all_map, List.all_eq_true]
    exact fun x hx => Td (List.all_eq_true.1 hargs x hx)
  obtain ⟨hl, hat⟩ := args_at hvs'
  refine calls_of_wp hf hb ?_
  have hrel := Oe (P := P) (bx := bx) hst' hvs' (by simpa using hlen) hpl
  refine wp_mono (h _ _ _ _ _ hrel) ?_
  rintro e a' w' ⟨σ', ⟨he, hres⟩, St1, B', h1, h2, h3, h4⟩
  have hfin : a'.defers = [] ∧ ∃ v, (results fn a'.tmps).run P w' = .ok v w' ∧ Ret P w St r (.returned v) w' := by
    obtain ⟨v, bs, q1, q2, q3, q4⟩ := Vz htb h1 hn hres
    have hge : ∀ g ∈ bs, w.heap.size <= g := fun g hg => Nat.le_of_not_lt (q4 g hg).1
    refine ⟨h1.defers, v, q1, v, bs, fun b o => (b < w.heap.size ∧ St b o) ∨ (w.heap.size <= b ∧ St1 b o), rfl, ⟨h2.os, h2.tape, h2.output, h2.size, h2.block⟩, fun b o hlt => ⟨fun hh => hh.elim (·.2) (fun hh => absurd hh.1 (by omega)), fun hh => .inl ⟨hlt, hh⟩⟩, fun b o hh => ?_, ?_, q3, fun g hg => ⟨hge g hg, (q4 g hg).2⟩⟩
    · rcases hh with hh | hh
      · exact Nat.lt_of_lt_of_le hh.1 h2.size
      · exact h1.st b o hh.2
    · exact Tl hr q2 (fun g hg => ⟨rfl, fun o => ⟨fun hh => hh.elim (fun hh => absurd hh.1 (by have := hge g hg; omega)) (·.2), fun hh => .inr ⟨hge g hg, hh⟩⟩⟩)
  rcases he with rfl | rfl
  · exact hfin
  · exact hfin
end
def sfY : PL -> Prop
  | [] => True
  | (_, c) :: L => P0 c = true ∧ sfY L
theorem yn : sfY [] := trivial
theorem yc {q : Nat} {c : V} {L : PL} (h : P0 c = true) (k : sfY L) : sfY ((q, c) :: L) := ⟨h, k⟩
theorem VK : ∀ {L : PL}, sfY L -> ∀ q, P0 (ofL L q) = true
  | [], _, q => rfl
  | (r, c) :: L, ⟨h1, h2⟩, q => by
    by_cases e : q = r
    · subst e
      rw [show ofL ((q, c) :: L) q = c from by simp [ofL, upd_same]]
      exact h1
    · rw [show ofL ((r, c) :: L) q = ofL L q from by simp [ofL, upd_ne _ _ e]]
      exact VK h2 q
theorem RE : ∀ {L : PL} {q : Nat}, q ∉ L.map (·.1) -> ofL L q = .undef
  | [], _, _ => rfl
  | (s, c) :: L, q, h => by
    rw [List.map_cons, List.mem_cons, not_or] at h
    rw [Gk, upd_ne _ _ h.1]
    exact RE h.2
theorem PG {L : PL} : ∀ {ss : List Nat} {L' : PL}, Tt L ss = some L' -> (∀ q, q ∈ ss -> lk L q = some (ofL L' q)) ∧ (∀ q, q ∉ ss -> ofL L' q = .undef) ∧ L'.map (·.1) = ss
  | [], _, h => by cases h; exact ⟨fun q hq => by simp at hq, fun _ _ => rfl, rfl⟩
  | s :: ss, _, h => by
    rw [Tt] at h
    obtain ⟨c, h1, h⟩ := Aa h
    obtain ⟨L1, h2, h⟩ := Aa h
    cases h
    obtain ⟨i1, i2, i3⟩ := PG h2
    refine ⟨fun q hq => ?_, fun q hq => ?_, by rw [List.map_cons, i3]⟩
    · by_cases e : q = s
      · subst e; rw [Gk, upd_same]; exact h1
      · rw [Gk, upd_ne _ _ e]; exact i1 q ((List.mem_cons.1 hq).resolve_left e)
    · rw [List.mem_cons, not_or] at hq
      rw [Gk, upd_ne _ _ hq.1]; exact i2 q hq.2
def V6 (L : PL) (S : List Nat) : List Nat := (L.map (·.1)).filter fun q => !S.contains q
theorem Oa {L : PL} {S : List Nat} {q : Nat} : (V6 L S).contains q = true ↔ q ∈ L.map (·.1) ∧ q ∉ S := by
  unfold V6
  rw [List.contains_iff_mem, List.mem_filter, Bool.not_eq_true', <- Bool.not_eq_true, List.contains_iff_mem]
theorem Qy {L L1 : PL} {S : List Nat} {g q : Nat} (h : Tu L S = some L1) (hg : q ≠ g) : kill (V6 L (g :: S)) (ofL L) q = ofL L1 q := by
  obtain ⟨L', h1, h⟩ := Aa h
  obtain ⟨h2, h⟩ := BX h
  cases h
  obtain ⟨i1, i2, i3⟩ := PG h1
  by_cases hq : q ∈ S
  · have e1 := C0 (i1 q hq)
    have hD : ¬ (V6 L (g :: S)).contains q = true := fun h => (Oa.1 h).2 (List.mem_cons_of_mem _ hq)
    unfold kill
    rw [if_neg hD, e1]
    cases hr : Dz (ofL L1 q) with
    | none => rfl
    | some b =>
      have hb : b ∈ S := by
        obtain ⟨p, hp, hpr⟩ := U7 hr
        have := List.all_eq_true.1 h2 p hp
        rw [hpr, i3] at this
        exact List.contains_iff_mem.1 this
      have hD' : ¬ (V6 L (g :: S)).contains b = true := fun h => (Oa.1 h).2 (List.mem_cons_of_mem _ hb)
      simp only [if_neg hD']
  · rw [i2 q hq]
    by_cases hk : q ∈ L.map (·.1)
    · exact RB (Oa.2 ⟨hk, fun h => (List.mem_cons.1 h).elim hg hq⟩)
    · unfold kill
      rw [RE hk]
      split <;> rfl
theorem Vy {α : Type} {f : α -> List V} {es : Nat} (z : ∀ x, (f x).length = es) {l : List α} {i : Int} {y : α} (gy : AA l i = some y) {o : Nat} {vs : List V} (ho : o + vs.length <= es) {x' : α} (hx : LE (f y) o vs = f x') : LE (l.flatMap f) (i.toNat * es + o) vs = (It l i x').flatMap f := by
  obtain ⟨g1, g2, g3⟩ := Az gy
  have hk : i.toNat < l.length := by omega
  unfold It
  rw [<- QQ z hk x', <- hx]
  unfold LE
  have e1 : (l.flatMap f).drop (i.toNat * es) = f y ++ (l.flatMap f).drop ((i.toNat + 1) * es) := by
    rw [G2 z, G2 z]
    obtain ⟨hlt, he⟩ := List.getElem?_eq_some_iff.1 g3
    rw [List.drop_eq_getElem_cons hlt, he, List.flatMap_cons]
  have hl : ((f y).take o ++ vs ++ (f y).drop (o + vs.length)).length = es := by
    have := z y
    simp only [List.length_append, List.length_take, List.length_drop]
    omega
  rw [hl]
  have e2 : (l.flatMap f).take (i.toNat * es + o) = (l.flatMap f).take (i.toNat * es) ++ (f y).take o := by
    have hlen : i.toNat * es <= (l.flatMap f).length := by
      rw [Ao z]
      exact Nat.mul_le_mul_right _ (Nat.le_of_lt hk)
    rw [List.take_add, e1, List.take_append_of_le_length (by rw [z y]; omega)]
  have e3 : (l.flatMap f).drop (i.toNat * es + o + vs.length) = (f y).drop (o + vs.length) ++ (l.flatMap f).drop (i.toNat * es + es) := by
    rw [Nat.add_assoc, <- List.drop_drop, e1, List.drop_append_of_le_length (by rw [z y]; omega), Nat.add_mul, Nat.one_mul]
  rw [e2, e3]
  simp only [List.append_assoc]
theorem get_at {α : Type} {f : α -> List V} {es : Nat} (z : ∀ x, (f x).length = es) {l : List α} {i : Int} {y : α} (gy : AA l i = some y) {o : Nat} {dd : TyD} (ho : o + dd.size <= es) (hp : 0 < dd.size) : getCells dd (l.flatMap f) (i.toNat * es + o) = getCells dd (f y) o ∧ i.toNat * es + o + dd.size <= (l.flatMap f).length := by
  obtain ⟨g1, g2, g3⟩ := Az gy
  have hk : i.toNat < l.length := by omega
  have e1 : (l.flatMap f).drop (i.toNat * es) = f y ++ (l.flatMap f).drop ((i.toNat + 1) * es) := by
    rw [G2 z, G2 z]
    obtain ⟨hlt, he⟩ := List.getElem?_eq_some_iff.1 g3
    rw [List.drop_eq_getElem_cons hlt, he, List.flatMap_cons]
  have hz := z y
  refine ⟨?_, ?_⟩
  · have e2 : ∀ k, k < es -> (l.flatMap f)[i.toNat * es + k]? = (f y)[k]? := fun k hk => by
      rw [<- List.getElem?_drop, e1, List.getElem?_append_left (by omega)]
    cases dd with
    | st n zz fs =>
      simp only [getCells, TyD.size] at ho ⊢
      rw [<- List.drop_drop, e1, List.drop_append_of_le_length (by omega), List.take_append_of_le_length (by rw [List.length_drop]; omega)]
    | _ => simp only [getCells, TyD.size] at ho ⊢; rw [e2 o (by omega)]
  · rw [Ao z]
    have : (i.toNat + 1) * es <= l.length * es := Nat.mul_le_mul_right _ hk
    rw [Nat.add_mul, Nat.one_mul] at this
    omega
theorem gk {α : Type} {f : α -> List V} {es : Nat} (z : ∀ x, (f x).length = es) {l : List α} {i : Int} {y : α} (gy : AA l i = some y) {o : Nat} (ho : Nat.ble (o + 1) es = true) : i.toNat * es + o < (l.flatMap f).length := (get_at (dd := .sc (.bool false)) z gy (o := o) (nb ho) (Nat.zero_lt_one)).2
theorem sl {α : Type} {n : Nat} {l : List α} {i : Int} {x : α} (h : n = l.length) : n = (It l i x).length := by unfold It; rw [List.length_set]; exact h
section
variable {P : Program} {tb : Tb} {cns : List Nat} {L : PL} {K : PS -> Prop} {s t : Nat} {x y : Operand} {nt : Nat} {bx : List Nat}
theorem qIt {d : Nat} {α : Type} {l : List α} {y0 : α} {g n m es eb : Nat} {i : Int} {kk : IntKind} {e : TypeId} {ez : List V} (hx : opO L x = some (.tok (.slice (some ⟨g, 0, none⟩) n m))) (hy : opO L y = some (.int kk i)) (ht : tb s = some (.sl e es eb ez)) (hn : n = l.length) (gi : AA l i = some y0)
    (k : K (ofL ((d, .tok (.pointer (some ⟨g, i.toNat * es, none⟩))) :: L))) : evO P tb cns ⟨some d, .indexAddr s x y, t, none⟩ (ofL L) K := by
  obtain ⟨g1, g2, g3⟩ := Az gi
  subst hn
  refine ⟨?_, ?_⟩
  · simp only [pc, Y2, ht, UH, Cl hx, Cl hy, M8, Xo]; exact ⟨g1, g2⟩
  · simp only [pv, Y3, ht, iaS, Cl hx, Cl hy, M8, fL]; exact k
theorem qLe {q d : Nat} {α : Type} {f : α -> List V} {l : List α} {y0 : α} {i : Int} {g off m n es : Nat} {e : TypeId} {v : V} {dd : TyD} (o : Nat) (hq : (Nat.beq q gS || Nat.beq q gU) = true) (hc : cns.contains d = true) (hx : adO L x = some (.tok (.pointer (some ⟨g, off, none⟩)))) (ho : off = i.toNat * es + o) (ht : tb s = some dd)
    (hg : lk L q = some (.gh [.slice (some ⟨g, 0, none⟩) n m] [.own e n (l.flatMap f)])) (z : ∀ x, (f x).length = es) (gy : AA l i = some y0) (hol : (Nat.ble (o + dd.size) es && Nat.ble 1 dd.size) = true) (hv : frc (getCells dd (f y0) o) = some v) (k : K (ofL ((d, v) :: L))) :
    evO P tb cns ⟨some d, .load s x, t, none⟩ (ofL L) K := by
  subst ho
  rw [Bool.and_eq_true] at hol
  obtain ⟨e1, e2⟩ := get_at (dd := dd) z gy (nb hol.1) (nb hol.2)
  simp only [evO, hc, if_true, PI, ht, Kg hx]
  refine ⟨trivial, q, g, _, e, n, m, _, rfl, (Bool.or_eq_true_iff.1 hq).imp Nat.eq_of_beq_eq_true Nat.eq_of_beq_eq_true, C0 hg, e2, nb hol.2, ?_⟩
  rw [e1, <- Gc hv]
  exact k
theorem qLh {d : Nat} {u2 : Value} {g off k0 m n : Nat} {e : TypeId} {cs : List V} {dd : TyD} (hc : cns.contains d = true) (hx : adO L x = some (.tok (.pointer (some ⟨g, off, none⟩)))) (ho : off = k0) (ht : tb s = some dd) (hdd : (match dd with | .st .. => false | _ => true) = true)
    (hg : lk L gU = some (.gh [.slice (some ⟨g, 0, none⟩) n m] [.own e n (cs.set k0 (.tok u2))])) (hk : k0 < cs.length) (k : K (ofL ((d, .tok u2) :: L))) : evO P tb cns ⟨some d, .load s x, t, none⟩ (ofL L) K := by
  subst ho
  have h1 : dd.size = 1 := by cases dd <;> first | rfl | cases hdd
  simp only [evO, hc, if_true, PI, ht, Kg hx]
  refine ⟨trivial, gU, g, _, e, n, m, _, rfl, .inr rfl, C0 hg, by rw [h1, List.length_set]; omega, by omega, ?_⟩
  have : getCells dd (cs.set off (.tok u2)) off = .tok u2 := by
    cases dd <;> first | (simp only [getCells, List.getElem?_set_self hk]; rfl) | cases hdd
  rw [this]
  exact k
theorem j5 {α : Type} {f : α -> List V} {l : List α} {y0 : α} {i : Int} {g off m n es : Nat} {e : TypeId} {c : V} {dd : TyD} {L0 L1 : PL} {vc : List V} (o : Nat) (x' : α) (S : List Nat) (hx : adO L x = some (.tok (.pointer (some ⟨g, off, none⟩)))) (ho : off = i.toNat * es + o) (ht : tb s = some dd)
    (hg : lk L gS = some (.gh [.slice (some ⟨g, 0, none⟩) n m] [.own e n (l.flatMap f)])) (hy : opO L y = some c) (h0 : (!(yT y).contains gS && !S.contains gS) = true) (hvc : jK (ofL L) y vc) (hn : (Nat.beq vc.length dd.size && Nat.ble (o + dd.size) es) = true) (hk0 : Ni L y c = some L0) (hk : Tu L0 S = some L1)
    (hx' : LE (f y0) o vc = f x') (z : ∀ x, (f x).length = es) (gy : AA l i = some y0) (hd : ∀ x, Et (f x) = true) (hd' : Et vc = true) (hs : sfY L1) (k : K (ofL ((gS, .gh [.slice (some ⟨g, 0, none⟩) n m] [.own e n ((It l i x').flatMap f)]) :: L1))) :
    evO P tb cns ⟨none, .store s x y, t, none⟩ (ofL L) K := by
  simp only [Bool.and_eq_true, Bool.not_eq_true'] at h0 hn
  subst ho
  have e1 := Cl hy
  have hn1 : vc.length = dd.size := Nat.eq_of_beq_eq_true hn.1
  have hn2 := nb hn.2
  have e0 : ofL L0 = Bm (ofL L) y := H9 hy hk0
  obtain ⟨g1, g2, g3⟩ := Az gy
  have hfl : i.toNat * es + o + dd.size <= (l.flatMap f).length := by
    rw [Ao z]
    have : (i.toNat + 1) * es <= l.length * es := Nat.mul_le_mul_right _ (by omega)
    rw [Nat.add_mul, Nat.one_mul] at this
    omega
  refine ⟨rfl, ?_⟩
  simp only [Xk, ht, Kg hx]
  refine ⟨g, _, e, n, m, _, V6 L0 (gS :: S), vc, rfl, C0 hg, ?_, hvc, hd', hn1, hfl, ?_, fun q hq => ?_, ?_⟩
  · exact sdF hd l
  · rw [h0.1, Bool.false_or]
    cases hc : (V6 L0 (gS :: S)).contains gS with
    | false => rfl
    | true => exact absurd (List.mem_cons_self) (Oa.1 hc).2
  · rw [<- e0]
    by_cases hD : (V6 L0 (gS :: S)).contains q = true
    · exact .inl hD
    · right
      have e2 := Qy hk hq
      rcases N6 (V6 L0 (gS :: S)) (ofL L0) q with e3 | e3
      · by_cases hm : q ∈ L0.map (·.1)
        · have hS : q ∈ S := Classical.byContradiction fun h => hD (Oa.2 ⟨hm, fun h' => (List.mem_cons.1 h').elim hq h⟩)
          obtain ⟨L', k1, k2⟩ := Aa hk
          obtain ⟨_, k2⟩ := BX k2
          cases k2
          rw [C0 ((PG k1).1 q hS)]
          exact VK hs q
        · rw [RE hm]; rfl
      · rw [<- e3, e2]; exact VK hs q
  · rw [<- e0, Vy z gy (by rw [hn1]; exact hn2) hx']
    have e4 : upd (kill (V6 L0 (gS :: S)) (ofL L0)) gS (.gh [.slice (some ⟨g, 0, none⟩) n m] [.own e n ((It l i x').flatMap f)]) = ofL ((gS, .gh [.slice (some ⟨g, 0, none⟩) n m] [.own e n ((It l i x').flatMap f)]) :: L1) := by
      rw [Gk]
      funext q
      by_cases hq : q = gS
      · subst hq; rw [upd_same, upd_same]
      · rw [upd_ne _ _ hq, upd_ne _ _ hq]; exact Qy hk hq
    rw [e4]
    exact k
theorem qSt {α : Type} {f : α -> List V} {l : List α} {y0 : α} {i : Int} {g off m n es : Nat} {e : TypeId} {c : V} {dd : TyD} {L0 L1 : PL} (o : Nat) (x' : α) (S : List Nat) (hx : adO L x = some (.tok (.pointer (some ⟨g, off, none⟩)))) (ho : off = i.toNat * es + o) (ht : tb s = some dd)
    (hg : lk L gS = some (.gh [.slice (some ⟨g, 0, none⟩) n m] [.own e n (l.flatMap f)])) (hy : opO L y = some c) (h0 : (c.isArg && (!(yT y).contains gS && !S.contains gS)) = true) (hn : (Nat.beq (FX c).length dd.size && Nat.ble (o + dd.size) es) = true) (hk0 : Ni L y c = some L0) (hk : Tu L0 S = some L1)
    (hx' : LE (f y0) o (FX c) = f x') (z : ∀ x, (f x).length = es) (gy : AA l i = some y0) (hd : ∀ x, Et (f x) = true) (hd' : Et (FX c) = true) (hs : sfY L1) (k : K (ofL ((gS, .gh [.slice (some ⟨g, 0, none⟩) n m] [.own e n ((It l i x').flatMap f)]) :: L1))) :
    evO P tb cns ⟨none, .store s x y, t, none⟩ (ofL L) K := by
  rw [Bool.and_eq_true] at h0
  exact j5 o x' S hx ho ht hg hy h0.2 (.inl ⟨by rw [Cl hy]; exact h0.1, by rw [Cl hy]⟩) hn hk0 hk hx' z gy hd hd' hs k
theorem kU {α : Type} {f : α -> List V} {l : List α} {y0 : α} {i : Int} {g off m n es : Nat} {e e2 : TypeId} {dd : TyD} {L1 : PL} (o : Nat) (x' : α) (S : List Nat) (hx : adO L x = some (.tok (.pointer (some ⟨g, off, none⟩)))) (ho : off = i.toNat * es + o) (ht : tb s = some dd)
    (hg : lk L gS = some (.gh [.slice (some ⟨g, 0, none⟩) n m] [.own e n (l.flatMap f)])) (h0 : (!S.contains gS) = true) (hn : (Nat.beq 1 dd.size && Nat.ble (o + dd.size) es) = true) (hk : Tu L S = some L1)
    (hx' : LE (f y0) o [.own e2 0 []] = f x') (z : ∀ x, (f x).length = es) (gy : AA l i = some y0) (hd : ∀ x, Et (f x) = true) (hs : sfY L1) (k : K (ofL ((gS, .gh [.slice (some ⟨g, 0, none⟩) n m] [.own e n ((It l i x').flatMap f)]) :: L1))) :
    evO P tb cns ⟨none, .store s x (.const (.slice none 0 0)), t, none⟩ (ofL L) K :=
  j5 (c := .dat 0 []) (vc := [.own e2 0 []]) (L0 := L) o x' S hx ho ht hg rfl (by rw [Bool.and_eq_true]; exact ⟨rfl, h0⟩) (.inr ⟨rfl, e2, rfl⟩) hn rfl hk hx' z gy hd rfl hs k
section
variable {α : Type} {f : α -> List V} {l : List α} {e : TypeId}
theorem gLb {q b : Nat} (A C : List V) (hs : lk L b = some (.box (A ++ .own e l.length (l.flatMap f) :: C))) (hq : lk L q = none) (hsq : Nat.beq b q = false) (hn : 0 < l.length)
    (h : ∀ g m, K (ofL ((q, .gh [.slice (some ⟨g, 0, none⟩) l.length m] [.own e l.length (l.flatMap f)]) :: (b, .box (A ++ .tok (.slice (some ⟨g, 0, none⟩) l.length m) :: C)) :: L))) : Gh P nt bx (ofL L) K :=
  Ux (C0 hs) (by rw [Kr, hq]; rfl) (fun e => by rw [e] at hsq; simp at hsq) (Sq (A := A) (C := C)) hn (fun _ => rfl) (fun _ => rfl) fun g m => Rx (h g m)
theorem kA {q b : Nat} (A C : List V) (hs : lk L b = some (.box (A ++ .own e l.length (l.flatMap f) :: C))) (hq : lk L q = none) (hsq : Nat.beq b q = false)
    (h : ∀ u, K (ofL ((q, .gh [u] [.own e l.length (l.flatMap f)]) :: (b, .box (A ++ .tok u :: C)) :: L))) : Gh P nt bx (ofL L) K :=
  WD (C0 hs) (by rw [Kr, hq]; rfl) (fun e => by rw [e] at hsq; simp at hsq) (Sq (A := A) (C := C)) (fun _ => rfl) (fun _ => rfl) fun u => Rx (h u)
theorem gDb {q b n : Nat} {u : Value} (A C : List V) (hs : lk L b = some (.box (A ++ .tok u :: C))) (hq : lk L q = some (.gh [u] [.own e n (l.flatMap f)])) (hsq : Nat.beq b q = false) (hn : n = l.length)
    (h : K (ofL ((q, .undef) :: (b, .box (A ++ .own e l.length (l.flatMap f) :: C)) :: L))) : Gh P nt bx (ofL L) K := by
  subst hn
  exact Rw (C0 hs) (C0 hq) (fun e => by rw [e] at hsq; simp at hsq) (Wt (A := A) (C := C)) rfl rfl (Rx h)
theorem gDs {q b n : Nat} {u : Value} (hs : lk L b = some (.tok u)) (hq : lk L q = some (.gh [u] [.own e n (l.flatMap f)])) (hsq : Nat.beq b q = false) (hn : n = l.length)
    (h : K (ofL ((q, .undef) :: (b, .own e l.length (l.flatMap f)) :: L))) : Gh P nt bx (ofL L) K := by
  subst hn
  exact Rw (C0 hs) (C0 hq) (fun e => by rw [e] at hsq; simp at hsq) Wu rfl rfl (Rx h)
theorem gSb {q b : Nat} (A C : List V) (hs : lk L b = some (.box (A ++ .own e l.length (l.flatMap f) :: C))) (hq : lk L q = none) (hsq : Nat.beq b q = false) (h1 : ∀ x, HX (f x) = true)
    (h : ∀ (U : Nat -> Value) (us : List Value), (∀ i, i < l.length -> U i = us.getD i undef) -> K (ofL ((q, .gh us (l.map fun x => Jl (f x))) :: (b, .box (A ++ .own e (AK 0 l).length ((AK 0 l).flatMap (pE f U)) :: C)) :: L))) : Gh P nt bx (ofL L) K :=
  WE (C0 hs) (by rw [Kr, hq]; rfl) (fun e => by rw [e] at hsq; simp at hsq) (VQ h1 (A := A) (C := C)) (fun _ => rfl) (fun _ => rfl) fun U us _ hU => Rx (h U us hU)
theorem gJb [BEq α] [LawfulBEq α] {q b n : Nat} {cs : List V} {us : List Value} {U : Nat -> Value} (A C : List V) (L' : List (Nat × α ⊕ α)) (hs : lk L b = some (.box (A ++ .own e n cs :: C))) (hc : V.own e n cs = .own e L'.length (L'.flatMap (mE f U))) (hq : lk L q = some (.gh us (l.map fun x => Jl (f x)))) (hsq : Nat.beq b q = false) (h1 : ∀ x, HX (f x) = true) (hU : ∀ i, i < l.length -> U i = us.getD i undef) (hok : okJ l L' [] = true)
    (h : K (ofL ((q, .undef) :: (b, .box (A ++ .own e (L'.map getM).length ((L'.map getM).flatMap f) :: C)) :: L))) : Gh P nt bx (ofL L) K :=
  YN (C0 (by rw [hs, hc])) (C0 hq) rfl (fun e => by rw [e] at hsq; simp at hsq) (WG h1 (A := A) (C := C)) hU hok rfl rfl (Rx h)
variable {β : Type} {f2 : β -> List V} {l2 : List β} {e2 : TypeId} {n : Nat} {u1 : Value} {y0 : α} {i : Int} {es : Nat}
theorem gLg (o : Nat) (hs : lk L gU = some (.gh [u1] [.own e n (l.flatMap f)])) (hq : lk L gS = none) (z : ∀ x, (f x).length = es) (gy : AA l i = some y0) (ho : Nat.ble (o + 1) es = true) (hv : (f y0)[o]? = some (.own e2 l2.length (l2.flatMap f2))) (hn : 0 < l2.length)
    (h : ∀ g m, K (ofL ((gS, .gh [.slice (some ⟨g, 0, none⟩) l2.length m] [.own e2 l2.length (l2.flatMap f2)]) :: (gU, .gh [u1] [.own e n ((l.flatMap f).set (i.toNat * es + o) (.tok (.slice (some ⟨g, 0, none⟩) l2.length m)))]) :: L))) : Gh P nt bx (ofL L) K := by
  have hk : (l.flatMap f)[i.toNat * es + o]? = some (.own e2 l2.length (l2.flatMap f2)) := by
    obtain ⟨g1, g2, g3⟩ := Az gy
    have e1 : (l.flatMap f).drop (i.toNat * es) = f y0 ++ (l.flatMap f).drop ((i.toNat + 1) * es) := by
      rw [G2 z, G2 z]
      obtain ⟨hlt, he⟩ := List.getElem?_eq_some_iff.1 g3
      rw [List.drop_eq_getElem_cons hlt, he, List.flatMap_cons]
    rw [<- List.getElem?_drop, e1, List.getElem?_append_left (by have := z y0; have := nb ho; omega), hv]
  exact Ux (C0 hs) (by rw [Kr, hq]; rfl) (by decide) (Zg hk) hn (fun _ => rfl) (fun _ => rfl) fun g m => Rx (h g m)
theorem gDg {u2 : Value} {n2 : Nat} (o : Nat) (x' : α) (hs : lk L gU = some (.gh [u1] [.own e n ((l.flatMap f).set (i.toNat * es + o) (.tok u2))])) (hq : lk L gS = some (.gh [u2] [.own e2 n2 (l2.flatMap f2)])) (z : ∀ x, (f x).length = es) (gy : AA l i = some y0) (ho : Nat.ble (o + 1) es = true) (hn : n2 = l2.length) (hx : LE (f y0) o [.own e2 l2.length (l2.flatMap f2)] = f x')
    (h : K (ofL ((gS, .undef) :: (gU, .gh [u1] [.own e n ((It l i x').flatMap f)]) :: L))) : Gh P nt bx (ofL L) K := by
  subst hn
  obtain ⟨_, g2⟩ := get_at (dd := .sc (.bool false)) z gy (o := o) (nb ho) (Nat.zero_lt_one)
  have hlt : i.toNat * es + o < (l.flatMap f).length := g2
  have hk : ((l.flatMap f).set (i.toNat * es + o) (.tok u2))[i.toNat * es + o]? = some (.tok u2) := List.getElem?_set_self hlt
  refine Rw (C0 hs) (C0 hq) (by decide) (YG hk) rfl rfl (Rx ?_)
  have e1 : ((l.flatMap f).set (i.toNat * es + o) (.tok u2)).set (i.toNat * es + o) (.own e2 l2.length (l2.flatMap f2)) = (It l i x').flatMap f := by
    rw [List.set_set, <- Vy z gy (vs := [.own e2 l2.length (l2.flatMap f2)]) (nb ho) hx]
    rw [List.set_eq_take_append_cons_drop, if_pos hlt]
    simp [LE]
  rw [e1]
  exact h
end
theorem qP {d : Nat} {f : FuncId} {args : Array Operand} {ts : Array TypeId} {xs : List Operand} {s : Nat} {as cs cs' : List V} {r : V} (ha : args.toList = x :: xs) (hx : adO L x = some (.cref s 0)) (hs : lk L s = some (.box cs)) (hpl : cs.all Ig = true) (he : erA (ofL L) xs as) (hp : Jm P f cs as cs' r) (k : K (ofL ((d, r) :: (s, .box cs') :: L))) (hc : cns.contains d = false := by rfl) :
    evO P tb cns ⟨some d, .call { callee := .value (.func f), args := args, argTypes := ts }, t, none⟩ (ofL L) K := Wz (cnF hc) ha (Kg hx) (C0 hs) hpl he hp k
theorem qCk {d : Nat} {f : FuncId} {args : Array Operand} {ts : Array TypeId} {n : Nat} {as : List V} {r : V} (ha : args.toList = [x]) (hx : opO L x = some (.arg n as)) (hs : Ah P f [.arg n as] r) (k : K (ofL ((d, r) :: L))) (hc : cns.contains d = false := by rfl) : evO P tb cns ⟨some d, .call { callee := .value (.func f), args := args, argTypes := ts }, t, none⟩ (ofL L) K := by
  show Iv P cns _ f args.toList (ofL L) K
  unfold Iv
  rw [if_neg (by simpa using hc)]
  refine .inl ⟨?_, r, .inr ?_, k⟩
  · rw [ha, List.all_cons, Cl hx]; rfl
  · rw [ha, List.map_cons, Cl hx]; exact hs
theorem qN {d : Nat} {f : FuncId} {args : Array Operand} {ts : Array TypeId} {n : Nat} {as cs : List V} (hc : cns.contains d = true) (hb : nbL L d = true) (ha : args.toList = [x]) (hx : opO L x = some (.arg n as)) (hp : NewAt P f [.arg n as] cs) (k : K (ofL ((d, .box cs) :: L))) :
    evO P tb cns ⟨some d, .call { callee := .value (.func f), args := args, argTypes := ts }, t, none⟩ (ofL L) K := by
  refine Wy hc (QB hb) ?_ ?_ hp k
  · rw [ha, List.all_cons, Cl hx]; rfl
  · rw [ha, List.map_cons, Cl hx]; rfl
theorem TI (htb : J7 P tb) {f : FuncId} {nt : Nat} {bx : List Nat} {rs : List ResultVar} {l : LC} {args : List V} {r : V} (hl : Lit P f nt bx rs l) (hlen : args.length <= nt) (hargs : args.all IG = true) (hr : Wr r = true) (h : LS P nt bx l (Iw (args.map Qg)) (d7 tb rs r)) : Ah P f args r := by
  obtain ⟨⟨fn, c, h1, h2, h3, rfl, rfl, h6, h7⟩, hn, hL⟩ := hl
  exact VO htb h1 h2 h3 bx hlen hargs hr hn (h c h6 h7 hL)
end
def Le {α : Type} (x : List (Nat × α)) : List (Nat × α ⊕ α) := x.map Sum.inl
def Qx {α : Type} (x : List α) : List (Nat × α ⊕ α) := x.map Sum.inr
theorem Tx {α : Type} {x : List (Nat × α)} : x.length = (Le x).length := (List.length_map _).symm
theorem Zb {α : Type} {x : List α} : x.length = (Qx x).length := (List.length_map _).symm
theorem Yz {α : Type} {f : α -> List V} {U : Nat -> Value} {x : List (Nat × α)} : x.flatMap (pE f U) = (Le x).flatMap (mE f U) := by unfold Le; rw [List.flatMap_map]; rfl
theorem gw {α : Type} {f : α -> List V} {U : Nat -> Value} {x : List α} : x.flatMap f = (Qx x).flatMap (mE f U) := by unfold Qx; rw [List.flatMap_map]; rfl
theorem ZF {α : Type} {f : α -> List V} {U : Nat -> Value} {e : TypeId} {x : List (Nat × α)} : V.own e x.length (x.flatMap (pE f U)) = .own e (Le x).length ((Le x).flatMap (mE f U)) := by rw [<- Tx, <- Yz]
theorem qA2 {P : Program} {tb : Tb} {cns : List Nat} {L : PL} {K : PS -> Prop} {s d t : Nat} {α : Type} (f : α -> List V) (l m : List α) {n0 m0 es p q : Nat} {e : TypeId} {cs0 ds : List V} {c : V} {L2 : PL} (h : gq tb L s p q = some (n0, cs0, es, m0, ds, c, L2)) (he : lk L p = some (.own e n0 cs0)) (hd : ds.length = m0 * es) (h1 : n0 = l.length) (h2 : cs0 = l.flatMap f) (h3 : m0 = m.length) (ha : RW c = m.flatMap f) (hl : l.length + m.length <= lim)
    (k : K (ofL ((d, .own e (l ++ m).length ((l ++ m).flatMap f)) :: L2))) : evO P tb cns ⟨some d, .call { callee := .builtin .append, args := #[.tmp p, .tmp q], argTypes := #[s, s] }, t, none⟩ (ofL L) K := by
  subst h1 h2 h3
  exact qA f l m h he hd ha hl k
theorem dcn : HV [] = true := rfl
theorem dcc {c : V} {cs : List V} (h : deep c = true) (k : HV cs = true) : HV (c :: cs) = true := by rw [HV, h, k]; rfl
theorem dcf {α : Type} {f : α -> List V} (h : ∀ x, HV (f x) = true) (l : List α) : HV (l.flatMap f) = true := NN.2 fun c hc => by
  obtain ⟨a, _, hc⟩ := List.mem_flatMap.1 hc
  exact NN.1 (h a) c hc
theorem dco {α : Type} {f : α -> List V} (h : ∀ x, HV (f x) = true) (e : TypeId) (l : List α) : deep (.own e l.length (l.flatMap f)) = true := by rw [deep]; exact dcf h l
theorem sgh {us : List Value} {e : TypeId} {n k : Nat} {cs : List V} {u : Value} (h : Et cs = true) : P0 (.gh us [.own e n (cs.set k (.tok u))]) = true := by
  show Et [_] = true
  rw [Et, Lb, Bool.and_eq_true]
  refine ⟨Hv.2 fun c hc => ?_, rfl⟩
  rcases List.mem_or_eq_of_mem_set hc with h1 | h1
  · exact Hv.1 h c h1
  · subst h1; rfl
theorem dag {cs : List V} (h : HV cs = true) : deep (.agg cs) = true := by rw [deep]; exact h
theorem NH : ∀ {cs : List V}, Jo cs = true ↔ ∀ c ∈ cs, KY c = true
  | [] => by simp [Jo]
  | c :: cs => by rw [Jo, Bool.and_eq_true, NH (cs := cs)]; simp
theorem acc {c : V} {cs : List V} (h : KY c = true) (k : Jo cs = true) : Jo (c :: cs) = true := by rw [Jo, h, k]; rfl
theorem acf {α : Type} {f : α -> List V} (h : ∀ x, Jo (f x) = true) (l : List α) : Jo (l.flatMap f) = true := NH.2 fun c hc => by
  obtain ⟨a, _, hc⟩ := List.mem_flatMap.1 hc
  exact NH.1 (h a) c hc
theorem aca {α : Type} {f : α -> List V} (h : ∀ x, Jo (f x) = true) (l : List α) : KY (.arg l.length (l.flatMap f)) = true := by rw [KY]; exact acf h l
theorem sA {c : V} (h : KY c = true) : PZ c = true := Yg h
theorem snc {c : V} {cs : List V} (h : PZ c = true) (k : cs.all PZ = true) : (c :: cs).all PZ = true := by rw [List.all_cons, h, k]; rfl
theorem bcc {c : V} {cs : List V} (h : Ml c = true) (k : CB cs = true) : CB (c :: cs) = true := by rw [CB, h, k]; rfl
theorem vag {cs cs' : List V} (h : I4 cs = cs') : Qg (.agg cs) = .agg cs' := by rw [Qg, h]
theorem fm {c : V} {cs : List V} (h : IG c = true) (k : cs.all IG = true) : (c :: cs).all IG = true := by rw [List.all_cons, h, k]; rfl
theorem mvv {c c' : V} {cs cs' : List V} (h : Qg c = c') (k : cs.map Qg = cs') : (c :: cs).map Qg = c' :: cs' := by rw [List.map_cons, h, k]
theorem vcc {c c' : V} {cs cs' : List V} (h : Qg c = c') (k : I4 cs = cs') : I4 (c :: cs) = c' :: cs' := by rw [I4, h, k]
theorem Ql : ∀ (a b : List V), I4 (a ++ b) = I4 a ++ I4 b
  | [], _ => rfl
  | c :: a, b => by rw [List.cons_append, I4, I4, Ql a b, List.cons_append]
theorem OR {α : Type} {f g : α -> List V} (h : ∀ x, I4 (f x) = g x) : ∀ l : List α, I4 (l.flatMap f) = l.flatMap g
  | [] => rfl
  | x :: l => by rw [List.flatMap_cons, List.flatMap_cons, Ql, h, OR h l]
theorem aG {α : Type} {f g : α -> List V} (h : ∀ x, I4 (f x) = g x) (l : List α) : Qg (.dat l.length (l.flatMap f)) = .arg l.length (l.flatMap g) := by rw [Qg, OR h]
theorem RV : ∀ {a b : List V}, CB a = true -> CB b = true -> CB (a ++ b) = true
  | [], _, _, h => h
  | c :: a, b, h, k => by
    rw [CB, Bool.and_eq_true] at h
    rw [List.cons_append, CB, h.1, RV h.2 k]; rfl
theorem Qk {α : Type} {f : α -> List V} (h : ∀ x, CB (f x) = true) : ∀ l : List α, CB (l.flatMap f) = true
  | [] => rfl
  | x :: l => by rw [List.flatMap_cons]; exact RV (h x) (Qk h l)
theorem TR {α : Type} {f : α -> List V} (h : ∀ x, CB (f x) = true) (l : List α) : Ml (.dat l.length (l.flatMap f)) = true := Qk h l
end Go.Proofs.YtlknpohjnpnodaaGreat
namespace Go.Proofs.YtlknpohjnpnodaaGreat
open Go.RowKit
set_option linter.unusedVariables false
mutual
def frz : V -> V
  | .own _ n cs => .arg n (Mv cs)
  | .dat n cs => .dat n cs
  | .arg n cs => .arg n cs
  | .pin u n cs => .pin u n cs
  | .int k n => .int k n
  | .bool b => .bool b
  | .str s => .str s
  | .fn f => .fn f
  | .tok u => .tok u
  | _ => .undef
def Mv : List V -> List V
  | [] => []
  | c :: cs => frz c :: Mv cs
end
theorem Py {cs : List V} (h : cs = []) : Mv cs = [] := by subst h; rfl
section
variable {P : Program} {w : World} {St St' : Nat -> Nat -> Prop}
mutual
theorem Ow.frz (hs : ∀ b o, St b o -> St' b o) : ∀ (c : V) {v : Value} {bs : List Nat}, Ow P w St c v bs -> c.Dv = true -> (∀ g ∈ bs, ∀ o, St' g o) -> Rd w St' (frz c) v
  | .int _ _, _, _, h, _, _ => h.2
  | .bool _, _, _, h, _, _ => h.2
  | .str _, _, _, h, _, _ => h.2
  | .dat n cs, _, _, h, _, _ => Rd.mono hs (fun _ _ _ => rfl) (.dat n cs) h.2
  | .arg n cs, _, _, h, _, _ => Rd.mono hs (fun _ _ _ => rfl) (.arg n cs) h.2
  | .pin u n cs, _, _, h, _, _ => Rd.mono hs (fun _ _ _ => rfl) (.pin u n cs) h.2
  | .own e n cs, v, bs, ⟨hn, xs, bs', h1, h2, h3, h4, h5⟩, _, hg => by
    have hl := h1.1
    rcases h1.2 with ⟨rfl, rfl⟩ | ⟨g, cap, cur, rfl, hg1, hh, hc, hm, hsz, hx⟩
    · exact ⟨Ax hn, none, 0, rfl, Nat.le_refl _, fun h => absurd h (by omega), fun hz => Py (h5 hz)⟩
    · have hgo := hg g (by rw [h3]; simp [Value.ownBlock])
      refine ⟨Ax hn, _, cap, rfl, hc, fun _ => ⟨g, 0, rfl, fun _ => hgo, ?_⟩, fun hz => Py (h5 hz)⟩
      refine Av.frz hs cs 0 h2 hgo (fun j u hu => ?_) (fun g' hg' => hg g' (by rw [h3]; exact List.mem_append_right _ hg'))
      have hj : j < n * csz P e := by
        rw [<- hl]
        rcases Nat.lt_or_ge j xs.length with h | h
        · exact h
        · rw [List.getElem?_eq_none h] at hu; cases hu
      rw [Nat.zero_add]
      simp only [World.cell?, hh]
      rw [<- hx, List.getElem?_take, if_pos hj] at hu
      simpa using hu
  | .agg _, _, _, _, h, _ => by cases h
  | .tup _, _, _, _, h, _ => by cases h
  | .box _, _, _, h, _, _ => h.elim
  | .uni _ _ _, _, _, h, _, _ => h.elim
  | .same _, _, _, h, _, _ => h.elim
  | .cref _ _, _, _, h, _, _ => h.elim
  | .adr _ _, _, _, h, _, _ => h.elim
  | .gh _ _, _, _, h, _, _ => h.elim
  | .fn _, _, _, h, _, _ => h.2
  | .tok _, _, _, h, _, _ => h.2
  | .undef, _, _, h, _, _ => h.elim
theorem Av.frz (hs : ∀ b o, St b o -> St' b o) {g : Nat} : ∀ (cs : List V) (off : Nat) {us : List Value} {bs : List Nat}, Av P w St cs us bs -> (∀ o, St' g o) -> (∀ (j : Nat) (u : Value), us[j]? = some u -> w.cell? ⟨g, off + j, none⟩ = some u) -> (∀ g ∈ bs, ∀ o, St' g o) -> Cm w St' g off (Mv cs)
  | [], _, _, _, _, _, _, _ => trivial
  | c :: cs, off, _, _, ⟨u, us', b1, b2, e1, e2, hc, h1, h2⟩, hgo, hu, hg => by
    have h0 := hu 0 u (by rw [e1]; rfl)
    refine ⟨⟨hgo off, u, by simpa using h0, Ow.frz hs c h1 hc (fun g' hg' => hg g' (by rw [e2]; exact List.mem_append_left _ hg'))⟩, Av.frz hs cs (off + 1) h2 hgo (fun j x hx => ?_) (fun g' hg' => hg g' (by rw [e2]; exact List.mem_append_right _ hg'))⟩
    have := hu (j + 1) x (by rw [e1]; simpa using hx)
    rw [show off + 1 + j = off + (j + 1) by omega]; exact this
end
end
def fO (P : Program) (c c' : V) : Prop :=
  ∀ w St (t : Nat -> Value) v bs, A4 P w St t c v bs -> bs.Nodup -> ∃ fb b1 : List Nat, (∀ g ∈ fb, g ∈ bs) ∧ (∀ g ∈ b1, g ∈ bs) ∧ b1.Nodup ∧ A4 P w (fun b o => St b o ∨ b ∈ fb) t c' v b1
section
variable {P : Program} {w : World} {St St' : Nat -> Nat -> Prop}
theorem WC {c : V} (h : c.Dv = true) : (frz c).Dv = true := by cases c <;> first | rfl | cases h
theorem dW {c : V} {v : Value} (hc : c.Dv = true) (h : Rd w St (frz c) v) : Ow P w St (frz c) v [] := by cases c <;> first | exact ⟨rfl, h⟩ | cases hc
theorem Av.fy (hs : ∀ b o, St b o -> St' b o) : ∀ (cs : List V) {us : List Value} {bs : List Nat}, Av P w St cs us bs -> (∀ g ∈ bs, ∀ o, St' g o) -> Av P w St' (Mv cs) us []
  | [], _, _, h, _ => ⟨h.1, rfl⟩
  | c :: cs, _, _, ⟨u, us', b1, b2, e1, e2, hc, h1, h2⟩, hg =>
    ⟨u, us', [], [], e1, rfl, WC hc, dW hc (Ow.frz hs c h1 hc (fun g hg' => hg g (by rw [e2]; exact List.mem_append_left _ hg'))), Av.fy hs cs h2 (fun g hg' => hg g (by rw [e2]; exact List.mem_append_right _ hg'))⟩
theorem Ow.fy {e : TypeId} {n : Nat} {cs : List V} {v : Value} {bs : List Nat} (h : Ow P w St (.own e n cs) v bs) (hn : bs.Nodup) : ∃ fb b1 : List Nat, (∀ g ∈ fb, g ∈ bs) ∧ (∀ g ∈ b1, g ∈ bs) ∧ b1.Nodup ∧ (∀ g ∈ b1, g ∉ fb) ∧ Ow P w (fun b o => St b o ∨ b ∈ fb) (.own e n (Mv cs)) v b1 := by
  obtain ⟨hl, xs, bs', h1, h2, h3, h4, h5⟩ := h
  rw [h3] at hn
  have hn2 := List.nodup_append.1 hn
  have hap : ∀ g ∈ v.ownBlock.toList, g ∉ bs' := fun g hg hg2 => hn2.2.2 g hg g hg2 rfl
  refine ⟨bs', v.ownBlock.toList, fun g hg => by rw [h3]; exact List.mem_append_right _ hg, fun g hg => by rw [h3]; exact List.mem_append_left _ hg, hn2.1, hap, hl, xs, [], ?_, Av.fy (fun _ _ h => .inl h) cs h2 (fun g hg o => .inr hg), by simp, fun g hg o => ?_, fun hz => Py (h5 hz)⟩
  · refine ⟨h1.1, ?_⟩
    rcases h1.2 with h | ⟨g, cap, cur, rfl, hg, hh, r⟩
    · exact .inl h
    · exact .inr ⟨g, cap, cur, rfl, hg, hh, r⟩
  · refine ⟨fun h => h.elim (fun h => (h4 g hg o).1 h) (fun hf => absurd hf (hap g (by rw [hg]; simp))), fun h => .inl ((h4 g hg o).2 h)⟩
end
section
variable {P : Program} {nt : Nat} {bx : List Nat} {σ : PS} {K : PS -> Prop}
theorem YM {e : TypeId} {n : Nat} {cs A C : List V} : fO P (.box (A ++ .own e n cs :: C)) (.box (A ++ .arg n (Mv cs) :: C)) := by
  rintro w St t v bs ⟨g, T, bs', arr, e1, e2, hr, rfl, hst⟩ hn
  obtain ⟨us1, us2, p1, p2, eu, eb, r1, r2⟩ := hr.app
  obtain ⟨u, us3, p3, p4, eu2, eb2, hc, r3, r4⟩ := r2
  subst eb eb2
  have hn1 := List.nodup_cons.1 hn
  have hn2 := List.nodup_append.1 hn1.2
  have hn3 := List.nodup_append.1 hn2.2.1
  have keep : ∀ p : List Nat, (∀ x ∈ p, x ∉ p3) -> ∀ x ∈ p, w.heap[x]? = w.heap[x]? ∧ ∀ o, (St x o ∨ x ∈ p3) ↔ St x o := fun p hp x hx => ⟨rfl, fun o => ⟨fun h => h.elim id (fun hf => absurd hf (hp x hx)), .inl⟩⟩
  have m1 := Av.mono (St' := fun b o => St b o ∨ b ∈ p3) (fun _ _ h => .inl h) (fun _ _ _ => rfl) _ r1 (keep p1 fun x hx hx3 => hn2.2.2 x hx x (List.mem_append_left _ hx3) rfl)
  have m4 := Av.mono (St' := fun b o => St b o ∨ b ∈ p3) (fun _ _ h => .inl h) (fun _ _ _ => rfl) _ r4 (keep p4 fun x hx hx3 => hn3.2.2 x hx3 x hx rfl)
  have hz : Ow P w (fun b o => St b o ∨ b ∈ p3) (.arg n (Mv cs)) u [] := ⟨rfl, Ow.frz (fun _ _ h => .inl h) (.own e n cs) r3 rfl (fun g hg o => .inr hg)⟩
  refine ⟨p3, g :: (p1 ++ p4), ?_, ?_, ?_, g, T, p1 ++ p4, arr, e1, e2, ?_, rfl, fun o ho => ?_⟩
  · intro x hx
    exact List.mem_cons_of_mem _ (List.mem_append_right _ (List.mem_append_left _ hx))
  · intro x hx
    simp only [List.mem_cons, List.mem_append] at hx ⊢
    rcases hx with h | h | h
    · exact .inl h
    · exact .inr (.inl h)
    · exact .inr (.inr (.inr h))
  · refine List.nodup_cons.2 ⟨fun hm => hn1.1 ?_, List.nodup_append.2 ⟨hn2.1, hn3.2.1, fun a ha b hb => hn2.2.2 a ha b (List.mem_append_right _ hb)⟩⟩
    simp only [List.mem_append] at hm ⊢
    rcases hm with h | h
    · exact .inl h
    · exact .inr (.inr h)
  · rw [eu, eu2]
    exact Av.join m1 (show Av P w _ (.arg n (Mv cs) :: C) (u :: us3) p4 from ⟨u, us3, [], p4, rfl, by simp, rfl, hz, m4⟩)
  · rcases ho with ho | ho
    · exact hst o ho
    · exact hn1.1 (List.mem_append_right _ (List.mem_append_left _ ho))
theorem WB {e : TypeId} {n : Nat} {cs A C : List V} : fO P (.box (A ++ .own e n cs :: C)) (.box (A ++ .own e n (Mv cs) :: C)) := by
  rintro w St t v bs ⟨g, T, bs', arr, e1, e2, hr, rfl, hst⟩ hn
  obtain ⟨us1, us2, p1, p2, eu, eb, r1, r2⟩ := hr.app
  obtain ⟨u, us3, p3, p4, eu2, eb2, hc, r3, r4⟩ := r2
  subst eb eb2
  have hn1 := List.nodup_cons.1 hn
  have hn2 := List.nodup_append.1 hn1.2
  have hn3 := List.nodup_append.1 hn2.2.1
  obtain ⟨fb, b1, q1, q2, q3, q4, q5⟩ := Ow.fy r3 hn3.1
  have keep : ∀ p : List Nat, (∀ x ∈ p, x ∉ fb) -> ∀ x ∈ p, w.heap[x]? = w.heap[x]? ∧ ∀ o, (St x o ∨ x ∈ fb) ↔ St x o := fun p hp x hx => ⟨rfl, fun o => ⟨fun h => h.elim id (fun hf => absurd hf (hp x hx)), .inl⟩⟩
  have m1 := Av.mono (St' := fun b o => St b o ∨ b ∈ fb) (fun _ _ h => .inl h) (fun _ _ _ => rfl) _ r1 (keep p1 fun x hx hx3 => hn2.2.2 x hx x (List.mem_append_left _ (q1 x hx3)) rfl)
  have m4 := Av.mono (St' := fun b o => St b o ∨ b ∈ fb) (fun _ _ h => .inl h) (fun _ _ _ => rfl) _ r4 (keep p4 fun x hx hx3 => hn3.2.2 x (q1 x hx3) x hx rfl)
  refine ⟨fb, g :: (p1 ++ (b1 ++ p4)), ?_, ?_, ?_, g, T, p1 ++ (b1 ++ p4), arr, e1, e2, ?_, rfl, fun o ho => ?_⟩
  · intro x hx
    exact List.mem_cons_of_mem _ (List.mem_append_right _ (List.mem_append_left _ (q1 x hx)))
  · intro x hx
    simp only [List.mem_cons, List.mem_append] at hx ⊢
    rcases hx with h | h | h | h
    · exact .inl h
    · exact .inr (.inl h)
    · exact .inr (.inr (.inl (q2 x h)))
    · exact .inr (.inr (.inr h))
  · refine List.nodup_cons.2 ⟨fun hm => hn1.1 ?_, List.nodup_append.2 ⟨hn2.1, List.nodup_append.2 ⟨q3, hn3.2.1, fun a ha b hb => hn3.2.2 a (q2 a ha) b hb⟩, fun a ha b hb e => ?_⟩⟩
    · simp only [List.mem_append] at hm ⊢
      rcases hm with h | h | h
      · exact .inl h
      · exact .inr (.inl (q2 _ h))
      · exact .inr (.inr h)
    · rcases List.mem_append.1 hb with hb | hb
      · exact hn2.2.2 a ha b (List.mem_append_left _ (q2 b hb)) e
      · exact hn2.2.2 a ha b (List.mem_append_right _ hb) e
  · rw [eu, eu2]
    exact Av.join m1 (show Av P w _ (.own e n (Mv cs) :: C) (u :: us3) (b1 ++ p4) from ⟨u, us3, b1, p4, rfl, rfl, rfl, q5, m4⟩)
  · rcases ho with ho | ho
    · exact hst o ho
    · exact hn1.1 (List.mem_append_right _ (List.mem_append_left _ (q1 g ho)))
theorem XO {s : Nat} {c c' : V} (hs : σ s = c) (F : fO P c c') (hb : (DU c').isSome = (DU c).isSome) (hrf : Dz c' = none)
    (h : Gh P nt bx (upd σ s c') K) : Gh P nt bx σ K := by
  rintro base St0 w0 a w ⟨St, B, hS, r1, r2, r3⟩
  have h1 := hS.slot s
  rw [hs] at h1
  obtain ⟨fb, b1, q1, q2, q3, q4⟩ := F w St (tm a) (tm a s) (B s) h1 (hS.nodup s)
  have hB : ∀ r, r ≠ s -> upd B s b1 r = B r := fun r e => upd_ne _ _ e
  have hσ : ∀ r, r ≠ s -> upd σ s c' r = σ r := fun r e => upd_ne _ _ e
  have hin : ∀ r, ∀ g ∈ upd B s b1 r, g ∈ B r := fun r g hg => by
    by_cases e : r = s
    · subst e; rw [upd_same] at hg; exact q2 g hg
    · rw [hB r e] at hg; exact hg
  refine h base St0 w0 a w ⟨fun b o => St b o ∨ b ∈ fb, upd B s b1, { hS with
    slot := fun r => ?_
    boxes := fun r cs e => ?_
    crefs := fun r b e => ?_
    nodup := fun r => ?_
    apart := fun r t hrt g hg hg2 => hS.apart r t hrt g (hin r g hg) (hin t g hg2)
    hapart := fun r g hg => hS.hapart r g (hin r g hg)
    range := fun r g hg => hS.range r g (hin r g hg)
    st := fun b o hbo => hbo.elim (hS.st b o) (fun hf => (hS.range s b (q1 b hf)).2) }, r1, fun b o hbb => ⟨fun hbo => hbo.elim (r2 b o hbb).1 (fun hf => absurd hbb (hS.range s b (q1 b hf)).1), fun h0 => .inl ((r2 b o hbb).2 h0)⟩, r3⟩
  · by_cases e : r = s
    · subst e; rw [upd_same, upd_same]; exact q4
    · rw [hσ r e, hB r e]
      exact (hS.slot r).mono (fun _ _ h => .inl h) (fun _ _ _ => rfl) (fun g hg => ⟨rfl, fun o => ⟨fun h => h.elim id (fun hf => absurd (q1 g hf) (hS.apart r s e g hg)), .inl⟩⟩) (fun _ _ => rfl)
  · by_cases e1 : r = s
    · subst e1
      rw [upd_same] at e
      rw [e] at hb
      cases hx : DU c with
      | none => rw [hx] at hb; cases hb
      | some ds => exact hS.boxes r ds (by rw [hs]; exact hx)
    · rw [hσ r e1] at e; exact hS.boxes r cs e
  · by_cases e1 : r = s
    · subst e1; rw [upd_same, hrf] at e; cases e
    · rw [hσ r e1] at e
      obtain ⟨cs, hc⟩ := hS.crefs r b e
      by_cases e2 : b = s
      · subst e2
        rw [hs] at hc
        rw [upd_same]
        cases hx : DU c' with
        | none => rw [hx, hc] at hb; cases hb
        | some ds => exact ⟨ds, rfl⟩
      · exact ⟨cs, by rw [hσ b e2]; exact hc⟩
  · by_cases e : r = s
    · subst e; rw [upd_same]; exact q3
    · rw [hB r e]; exact hS.nodup r
end
theorem Sb : ∀ (a b : List V), Mv (a ++ b) = Mv a ++ Mv b
  | [], b => rfl
  | c :: a, b => by rw [List.cons_append, Mv, Mv, Sb a b, List.cons_append]
theorem LM {α : Type} {f g : α -> List V} (h : ∀ x, Mv (f x) = g x) : ∀ l : List α, Mv (l.flatMap f) = l.flatMap g
  | [] => rfl
  | x :: l => by rw [List.flatMap_cons, List.flatMap_cons, Sb, h, LM h l]
section
variable {P : Program} {nt : Nat} {bx : List Nat} {K : PS -> Prop} {L : PL} {α : Type} {f g : α -> List V} {l : List α} {e : TypeId}
theorem gFb {b : Nat} (A C : List V) (hs : lk L b = some (.box (A ++ .own e l.length (l.flatMap f) :: C))) (hf : ∀ x, Mv (f x) = g x)
    (h : K (ofL ((b, .box (A ++ .arg l.length (l.flatMap g) :: C)) :: L))) : Gh P nt bx (ofL L) K := by
  rw [<- LM hf l] at h
  exact XO (C0 hs) YM rfl rfl (Rx h)
theorem gFi {b : Nat} (A C : List V) (hs : lk L b = some (.box (A ++ .own e l.length (l.flatMap f) :: C))) (hf : ∀ x, Mv (f x) = g x)
    (h : K (ofL ((b, .box (A ++ .own e l.length (l.flatMap g) :: C)) :: L))) : Gh P nt bx (ofL L) K := by
  rw [<- LM hf l] at h
  exact XO (C0 hs) WB rfl rfl (Rx h)
end
theorem fzc {c c' : V} {cs cs' : List V} (h : frz c = c') (k : Mv cs = cs') : Mv (c :: cs) = c' :: cs' := by rw [Mv, h, k]
theorem fzO {α : Type} {f g : α -> List V} (h : ∀ x, Mv (f x) = g x) (e : TypeId) (l : List α) : frz (.own e l.length (l.flatMap f)) = .arg l.length (l.flatMap g) := by rw [frz, LM h]
end Go.Proofs.YtlknpohjnpnodaaGreat
