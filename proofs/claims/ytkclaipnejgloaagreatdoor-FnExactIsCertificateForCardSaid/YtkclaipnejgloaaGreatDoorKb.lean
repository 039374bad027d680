/-
  A machine on data, part 2: code, the rules of the printed walks, loops. Over no program; no conditions.
-/
import Derived.Test.YtkclaipnejgloaaGreatDoorKp
namespace Go.Proofs.YtkclaipnejgloaaGreatDoor
open Go.RowKit
set_option linter.unusedVariables false
theorem p2 {α β : Type} {a a' : α} {b b' : β} (h : (a,b) = (a',b')) : a = a' ∧ b = b':=Prod.mk.inj h
theorem p3 {α β γ : Type} {a a' : α} {b b' : β} {c c' : γ} (h : (a,b,c) = (a',b',c')) : a = a' ∧ b = b' ∧ c = c':=⟨(p2 h).1,p2 (p2 h).2⟩
theorem p4 {α β γ δ : Type} {a a' : α} {b b' : β} {c c' : γ} {d d' : δ} (h : (a,b,c,d) = (a',b',c',d')) : a = a' ∧ b = b' ∧ c = c' ∧ d = d':=⟨(p2 h).1,p3 (p2 h).2⟩
theorem p5 {α β γ δ ε : Type} {a a' : α} {b b' : β} {c c' : γ} {d d' : δ} {e e' : ε} (h : (a,b,c,d,e) = (a',b',c',d',e')) : a = a' ∧ b = b' ∧ c = c' ∧ d = d' ∧ e = e':=⟨(p2 h).1,p4 (p2 h).2⟩
section
variable {P : Program} {tb : Tb} {cns : List Nat} {σ : PS} {K : PS -> Prop} {d s t : Nat} {x y z : Operand}
theorem oGR {op : Op} {q : Nat} {e b : Bool} (g : e = b) (h : (gOp cns d op,σ q) = (true,.bool e)) (k : evO P tb cns ⟨some d,op,t,none⟩ σ K) : evO P tb cns ⟨some d,op,t,some (some q,b)⟩ σ K:=by
 subst g; obtain ⟨h1,h2⟩:=p2 h; exact fZ h1 h2 k
theorem ed {o : LO} {os : List LO} {R W : List Nat} {fps : List (List Nat × List Nat)} (h : (Wd R W o.op σ,adB cns R o σ) = (true,true)) (k : evO P tb cns o σ (fun σ' => evD P tb cns fps os σ' K)) : evD P tb cns ((R,W) :: fps) (o :: os) σ K:=evd (p2 h).1 (p2 h).2 k
end
def vA (σ : PS) : List (Nat × V) -> List V
  | [] => []
  | (s,_) :: L => σ s :: vA σ L
def vB : List (Nat × V) -> List V
  | [] => []
  | (_,c) :: L => c :: vB L
theorem okr {σ : PS} : ∀ {L : List (Nat × V)},vA σ L = vB L -> okK σ L
  | [],_ => trivial
  | (s,c) :: L,h => by
    injection h with h1 h2
    exact ⟨h1 ▸ kr,okr h2⟩
section
variable {P : Program} {nt : Nat} {bx : List Nat} {σ : PS} {Q : Exit -> PS -> Prop} {tb : Tb} {cns : List Nat}
theorem kp {l : LC} (L : List (Nat × V)) (h1 : vA σ L = vB L) (h2 : okR L = true) (h : LS P nt bx l (ofL L) Q) : LS P nt bx l σ Q:=Ez L (okr h1) h2 h
end
end Go.Proofs.YtkclaipnejgloaaGreatDoor
namespace Go.Proofs.YtkclaipnejgloaaGreatDoor
open Go.RowKit
set_option linter.unusedVariables false
abbrev PL:=List (Nat × V)
def ifB {α : Type} (b : Bool) (x : Option α) : Option α:=match b with
  | true => x
  | false => none
theorem Cs {α : Type} {b : Bool} {x : Option α} {r : α} (h : ifB b x = some r) : b = true ∧ x = some r:=by
  cases b with
  | true => exact ⟨rfl,h⟩
  | false => cases h
def gb : V -> Option V
  | .int k n => some (.int k n)
  | .bool b => some (.bool b)
  | .str s => some (.str s)
  | .own e n cs => some (.own e n cs)
  | .dat n cs => some (.dat n cs)
  | .arg n cs => some (.arg n cs)
  | .pin u n cs => some (.pin u n cs)
  | .fn f => some (.fn f)
  | .tok u => some (.tok u)
  | _ => none
def XS : List V -> Option (List V)
  | [] => some []
  | c :: cs => Ad (gb c) fun a => Ad (XS cs) fun as => some (a :: as)
def gc : V -> Option V
  | .agg cs => Ad (XS cs) fun as => some (.agg as)
  | c => gb c
def a8 : List V -> Option (List V)
  | [] => some []
  | c :: cs => Ad (gc c) fun a => Ad (a8 cs) fun as => some (a :: as)
def frc : V -> Option V
  | .tup cs => Ad (a8 cs) fun as => some (.tup as)
  | .box cs => Ad (XS cs) fun as => some (.box as)
  | .cref s o => some (.cref s o)
  | .adr cs o => some (.adr cs o)
  | .same s => some (.same s)
  | .uni e n cs => some (.uni e n cs)
  | c => gc c
theorem Ux {c d : V} (h : gb c = some d) : d = c:=by cases c <;> first | (cases h; rfl) | cases h
theorem PN : ∀ {cs ds : List V},XS cs = some ds -> ds = cs
  | [],_,h => by cases h; rfl
  | c :: cs,_,h => by
    rw [XS] at h
    obtain ⟨a,h1,h⟩:=Aa h
    obtain ⟨as,h2,h⟩:=Aa h
    cases h; rw [Ux h1,PN h2]
theorem Uy {c d : V} (h : gc c = some d) : d = c:=by
  cases c with
  | agg cs => obtain ⟨as,h2,h⟩:=Aa (show Ad (XS cs) _ = _ from h); cases h; rw [PN h2]
  | _ => exact Ux h
theorem Uz : ∀ {cs ds : List V},a8 cs = some ds -> ds = cs
  | [],_,h => by cases h; rfl
  | c :: cs,_,h => by
    rw [a8] at h
    obtain ⟨a,h1,h⟩:=Aa h
    obtain ⟨as,h2,h⟩:=Aa h
    cases h; rw [Uy h1,Uz h2]
theorem FL {c d : V} (h : frc c = some d) : d = c:=by
  cases c with
  | tup cs => obtain ⟨as,h2,h⟩:=Aa (show Ad (a8 cs) _ = _ from h); cases h; rw [Uz h2]
  | box cs => obtain ⟨as,h2,h⟩:=Aa (show Ad (XS cs) _ = _ from h); cases h; rw [PN h2]
  | cref s o => cases h; rfl
  | adr s o => cases h; rfl
  | same s => cases h; rfl
  | uni e n cs => cases h; rfl
  | _ => exact Uy h
def lk : PL -> Nat -> Option V
  | [],_ => none
  | (s,c) :: L,q => match Nat.beq q s with
    | true => some c
    | false => lk L q
theorem Jb (s : Nat) (c : V) (L : PL) : ofL ((s,c) :: L) = upd (ofL L) s c:=rfl
theorem N3 : ∀ (L : PL) (q : Nat),ofL L q = (lk L q).getD .undef
  | [],_ => rfl
  | (s,c) :: L,q => by
    rw [lk,Jb]
    cases h : Nat.beq q s with
    | true => rw [Nat.eq_of_beq_eq_true h,upd_same]; rfl
    | false => rw [upd_ne _ _ (Nat.ne_of_beq_eq_false h)]; exact N3 L q
theorem GK {L : PL} {q : Nat} {c : V} (h : lk L q = some c) : ofL L q = c:=by rw [N3,h]; rfl
def opO (L : PL) : Operand -> Option V
  | .tmp s => lk L s
  | .const v => frc (cV v)
  | .func f => some (.fn f)
  | _ => none
theorem EA {L : PL} {x : Operand} {c : V} (h : opO L x = some c) : opV (ofL L) x = c:=by
  cases x with
  | tmp s => exact GK h
  | const v => exact (FL h).symm
  | func f => cases h; rfl
  | _ => cases h
def adO (L : PL) : Operand -> Option V
  | .tmp s => Ad (lk L s) fun c => match c with
    | .box _ => some (.cref s 0)
    | c => some c
  | .global g => frc (X3 g)
  | _ => none
theorem Nt {L : PL} {x : Operand} {c : V} (h : adO L x = some c) : adV (ofL L) x = c:=by
  cases x with
  | tmp s =>
    obtain ⟨a,h1,h⟩:=Aa (show Ad (lk L s) _ = _ from h)
    have:=GK h1
    simp only [adV,this]
    cases a <;> (cases h; rfl)
  | global g => exact (FL h).symm
  | _ => cases h
def eT : V -> Bool
  | .own .. => true
  | _ => false
def eU : V -> Bool
  | .agg cs => cs.any eT
  | c => eT c
def j3 : V -> Bool
  | .tup cs => cs.any eU
  | c => eU c
theorem ZI {c : V} (h : eT c = false) : dg1 c = c:=by cases c <;> first | rfl | cases h
theorem S6 : ∀ {cs : List V},cs.any eT = false -> cs.map dg1 = cs
  | [],_ => rfl
  | c :: cs,h => by
    rw [List.any_cons,Bool.or_eq_false_iff] at h
    rw [List.map_cons,ZI h.1,S6 h.2]
theorem Vw {c : V} (h : eU c = false) : dg2 c = c:=by
  cases c with
  | agg cs => rw [dg2,S6 h]
  | _ => first | rfl | cases h
theorem S7 : ∀ {cs : List V},cs.any eU = false -> cs.map dg2 = cs
  | [],_ => rfl
  | c :: cs,h => by
    rw [List.any_cons,Bool.or_eq_false_iff] at h
    rw [List.map_cons,Vw h.1,S7 h.2]
theorem dx {c : V} (h : j3 c = false) : dg c = c:=by
  cases c with
  | tup cs => rw [dg,S7 h]
  | agg cs => exact Vw (c:=.agg cs) h
  | _ => first | rfl | cases h
theorem Tw (σ : PS) (s : Nat) : upd σ s (σ s) = σ:=by
  funext q
  by_cases e : q = s
  · rw [e,upd_same]
  · rw [upd_ne _ _ e]
def O0 (L : PL) (x : Operand) (c : V) : Option PL:=match x with
  | .tmp s => match j3 c with
    | false => some L
    | true => Ad (frc (dg c)) fun c' => some ((s,c') :: L)
  | _ => some L
theorem J5 {L L' : PL} {x : Operand} {c : V} (h : opO L x = some c) (h2 : O0 L x c = some L') : ofL L' = Bw (ofL L) x:=by
  cases x with
  | tmp s =>
    have e:=GK h
    simp only [O0,Bw] at h2 ⊢
    split at h2
    · rename_i ho
      cases h2
      rw [e,dx ho,<- e,Tw]
    · obtain ⟨c',h3,h2⟩:=Aa h2
      cases h2
      rw [FL h3,Jb,e]
  | _ => cases h2; rfl
def mvO (L : PL) : Operand -> Option V
  | .tmp s => Ad (lk L s) fun c => match c with
    | .uni _ _ _ => some (.same s)
    | .same b => some (.same b)
    | .box _ => some (.cref s 0)
    | .cref b o => some (.cref b o)
    | c => ifB c.isVal (frc (dg c))
  | .const v => Ad (frc (cV v)) fun c => ifB c.isVal (frc (dg c))
  | _ => none
def PR : Option TyD -> Bool
  | some (.sc (.bool false)) => true
  | _ => false
def kEq : IntKind -> IntKind -> Bool
  | .i64,.i64 => true
  | .u8,.u8 => true
  | k,k' => decide (k = k')
theorem X1 {k k' : IntKind} (h : kEq k k' = true) : k = k':=by
  cases k <;> cases k' <;> first | rfl | cases h
def eD (d : Option TyD) : BinOp -> V -> V -> Bool
  | .shl,.int _ _,.int _ b => decide (0 <= b)
  | .shr,.int _ _,.int _ b => decide (0 <= b)
  | .quo,.int k _,.int k' b => kEq k k' && !decide (b = 0)
  | .rem,.int k _,.int k' b => kEq k k' && !decide (b = 0)
  | _,.int k _,.int k' _ => kEq k k'
  | .eql,.str _,.str _ => true
  | .neq,.str _,.str _ => true
  | .lss,.str _,.str _ => true
  | .leq,.str _,.str _ => true
  | .gtr,.str _,.str _ => true
  | .geq,.str _,.str _ => true
  | .eql,.bool _,.bool _ => PR d
  | .neq,.bool _,.bool _ => PR d
  | _,_,_ => false
def unB : UnOp -> V -> Bool
  | .not,.bool _ => true
  | .neg,.int _ _ => true
  | _,_ => false
def cvB (tb : Tb) (s d : TypeId) (x : V) : Option V:=match tb s,tb d,x with
  | some _,some (.sc (.int k _)),.int _ n => some (.int k (k.wrap n))
  | _,_,_ => none
def bxL (L : PL) (s : Nat) : Option (List V):=Ad (lk L s) EM
def Zp (tb : Tb) (L : PL) (t : TypeId) (x : Operand) : Option V:=Ad (tb t) fun d => Ad (adO L x) fun c => match c with
  | .cref s off => Ad (bxL L s) fun cs => ifB (Nat.ble (off + d.size) cs.length) (frc (getCells d cs off))
  | .adr cs off => ifB (Nat.ble (off + d.size) cs.length) (frc (getCells d cs off))
  | _ => none
def ptF (k : Nat) : Value -> Option V
  | .pointer (some ⟨g,o,none⟩) => some (.tok (.pointer (some ⟨g,o + k,none⟩)))
  | _ => none
theorem dy {k : Nat} {u : Value} {v : V} (h : ptF k u = some v) : eN u = true ∧ tokF k u = v:=by
  unfold ptF at h
  split at h
  · cases h; exact ⟨rfl,rfl⟩
  · cases h
def faO (tb : Tb) (L : PL) (t : TypeId) (x : Operand) (f : Nat) : Option V:=Ad (tb t) fun d => match d with
  | .st _ _ fs => Ad (fs[f]?) fun p => Ad (adO L x) fun c => match c with
    | .cref s o => Ad (bxL L s) fun _ => some (.cref s (o + p.1))
    | .adr cs o => some (.adr cs (o + p.1))
    | .tok u => ptF p.1 u
    | _ => none
  | _ => none
def j2 (L : PL) (x : Operand) : Option V:=Ad (adO L x) fun c => match c with
  | .cref s o => Ad (bxL L s) fun _ => some (.cref s o)
  | .adr cs o => some (.adr cs o)
  | _ => none
def QE : Option TyD -> Bool
  | some (.sc (.str [])) => true
  | _ => false
def UY : Option TyD -> Bool
  | some (.sl ..) => true
  | _ => false
def j1 (L : PL) (d : Option TyD) : V -> Option V
  | .str s => ifB (QE d) (some (.int .i64 s.length))
  | .same b => Ad (lk L b) fun c => match c with
    | .uni _ n _ => ifB (UY d) (some (.int .i64 n))
    | _ => none
  | c => Ad (Kf c) fun p => ifB (UY d) (some (.int .i64 p.1))
def Ub (tb : Tb) (L : PL) : Callee -> List Operand -> List TypeId -> Option V
  | .builtin .len,[x],[t] => Ad (opO L x) (j1 L (tb t))
  | .builtin .max,[x,y],_ => Ad (opO L x) fun a => Ad (opO L y) fun b => match a,b with
    | .int k a,.int _ b => some (.int k (if a < b then b else a))
    | _,_ => none
  | .builtin .min,[x,y],_ => Ad (opO L x) fun a => Ad (opO L y) fun b => match a,b with
    | .int k a,.int _ b => some (.int k (if b < a then b else a))
    | _,_ => none
  | _,_,_ => none
def VD (tb : Tb) (L : PL) : Op -> Option V
  | .move x => mvO L x
  | .pick c a b => Ad (opO L c) fun q => match q with
    | .bool e => match e with
      | true => Ad (opO L a) fun c => ifB c.isVal (frc (dg c))
      | false => Ad (opO L b) fun c => ifB c.isVal (frc (dg c))
    | _ => none
  | .binOp op t x y _ => Ad (opO L x) fun a => Ad (opO L y) fun b => ifB (eD (tb t) op a b) (frc (YL op a b))
  | .unOp op _ x => Ad (opO L x) fun a => ifB (unB op a) (frc (unV op a))
  | .convert s d x => Ad (opO L x) fun a => cvB tb s d a
  | .load t x => Zp tb L t x
  | .fieldAddr t x f => faO tb L t x f
  | .call c => Ub tb L c.callee c.args.toList c.argTypes.toList
  | _ => none
theorem TM {d : Option TyD} (h : PR d = true) : d = some (.sc (.bool false)):=by
  unfold PR at h
  split at h
  · rfl
  · cases h
theorem QF {d : Option TyD} (h : QE d = true) : d = some (.sc (.str [])):=by
  unfold QE at h
  split at h
  · rfl
  · cases h
theorem SH {d : Option TyD} (h : UY d = true) : ∃ e es eb ez,d = some (.sl e es eb ez):=by
  unfold UY at h
  split at h
  · exact ⟨_,_,_,_,rfl⟩
  · cases h
theorem YK {d : Option TyD} {op : BinOp} {a b : V} (h : eD d op a b = true) : Wm d op a b:=by
  cases a <;> cases b <;> cases op <;> first | (cases h; done) | exact trivial | exact TM h | exact X1 h | (simp only [eD,decide_eq_true_eq] at h; exact h) | (simp only [eD,Bool.and_eq_true,Bool.not_eq_true',decide_eq_false_iff_not] at h; exact ⟨X1 h.1,h.2⟩)
theorem d7 {op : UnOp} {a : V} (h : unB op a = true) : unC op a:=by
  cases a <;> cases op <;> first | (cases h; done) | exact trivial
theorem ee {σ : PS} {s : Nat} {c : V} (e : σ s = c) (h : c.isVal = true) : mvC σ (.tmp s) ∧ mvV σ (.tmp s) = dg c:=by
  subst e
  simp only [mvC,mvV]
  cases hc : σ s <;> rw [hc] at h <;> first | (cases h; done) | exact ⟨h,rfl⟩
theorem Yc {L : PL} {x : Operand} {v : V} (h : mvO L x = some v) : mvC (ofL L) x ∧ mvV (ofL L) x = v:=by
  cases x with
  | tmp s =>
    obtain ⟨c,h1,h⟩:=Aa (show Ad (lk L s) _ = _ from h)
    have e:=GK h1
    cases c with
    | uni a b c => cases h; simp only [mvC,mvV,e]; exact ⟨trivial,trivial⟩
    | same b => cases h; simp only [mvC,mvV,e]; exact ⟨trivial,trivial⟩
    | box b => cases h; simp only [mvC,mvV,e]; exact ⟨trivial,trivial⟩
    | cref b o => cases h; simp only [mvC,mvV,e]; exact ⟨trivial,trivial⟩
    | _ =>
      obtain ⟨h2,h3⟩:=Cs h
      obtain ⟨h4,h5⟩:=ee e h2
      exact ⟨h4,h5.trans (FL h3).symm⟩
  | const c =>
    obtain ⟨c,h1,h⟩:=Aa (show Ad (frc (cV c)) _ = _ from h)
    obtain ⟨h2,h3⟩:=Cs h
    have e:=FL h1
    subst e
    exact ⟨h2,(FL h3).symm⟩
  | _ => cases h
theorem SQ {tb : Tb} {L : PL} {t : TypeId} {x : Operand} {v : V} (h : Zp tb L t x = some v) : LQ (tb t) (ofL L) (adV (ofL L) x) ∧ LR (tb t) (ofL L) (adV (ofL L) x) = v:=by
  obtain ⟨d,h1,h⟩:=Aa h
  obtain ⟨c,h2,h⟩:=Aa h
  rw [h1,Nt h2]
  simp only [LQ,LR]
  cases c with
  | cref s off =>
    obtain ⟨cs,h3,h⟩:=Aa h
    obtain ⟨h4,h⟩:=Cs h
    obtain ⟨c,h5,h6⟩:=Aa h3
    have:=GK h5
    simp only [N4,PX,this,h6]
    exact ⟨nb h4,(FL h).symm⟩
  | adr cs off =>
    obtain ⟨h4,h⟩:=Cs h
    exact ⟨nb h4,(FL h).symm⟩
  | _ => cases h
theorem XP {tb : Tb} {L : PL} {t : TypeId} {x : Operand} {f : Nat} {v : V} (h : faO tb L t x f = some v) : XO (tb t) f (ofL L) (adV (ofL L) x) ∧ a6 (tb t) f (adV (ofL L) x) = v:=by
  obtain ⟨d,h1,h⟩:=Aa h
  cases d with
  | st n z fs =>
    obtain ⟨p,h2,h⟩:=Aa h
    obtain ⟨c,h3,h⟩:=Aa h
    rw [h1,Nt h3]
    simp only [XO,a6,h2]
    cases c with
    | cref s o =>
      obtain ⟨cs,h4,h⟩:=Aa h
      obtain ⟨c,h5,h6⟩:=Aa h4
      cases h
      have:=GK h5
      exact ⟨⟨cs,by rw [this,h6]⟩,rfl⟩
    | adr cs o => cases h; exact ⟨trivial,rfl⟩
    | tok u => exact dy h
    | _ => cases h
  | _ => cases h
theorem Zz {L : PL} {x : Operand} {v : V} (h : j2 L x = some v) : faC (ofL L) (adV (ofL L) x) ∧ adV (ofL L) x = v:=by
  obtain ⟨c,h3,h⟩:=Aa h
  rw [Nt h3]
  cases c with
  | cref s o =>
    obtain ⟨cs,h4,h⟩:=Aa h
    obtain ⟨c,h5,h6⟩:=Aa h4
    cases h
    have:=GK h5
    exact ⟨⟨cs,by rw [this,h6]⟩,rfl⟩
  | adr cs o => cases h; exact ⟨trivial,rfl⟩
  | _ => cases h
theorem SN {L : PL} {d : Option TyD} {c v : V} {n : Nat} {cs : List V} (hs : Kf c = some (n,cs)) (h : ifB (UY d) (some (V.int .i64 n)) = some v) : OR d (ofL L) c ∧ Wg (ofL L) c = v:=by
  obtain ⟨h2,h⟩:=Cs h
  obtain ⟨a,b,z,q,rfl⟩:=SH h2
  cases h
  cases c <;> first | (cases hs; done) | (cases hs; exact ⟨trivial,rfl⟩)
theorem Zl {L : PL} {d : Option TyD} {c v : V} (h : j1 L d c = some v) : OR d (ofL L) c ∧ Wg (ofL L) c = v:=by
  cases c with
  | str s =>
    obtain ⟨h1,h⟩:=Cs (show ifB (QE d) _ = _ from h)
    cases h; exact ⟨QF h1,rfl⟩
  | same b =>
    obtain ⟨c,h1,h⟩:=Aa (show Ad (lk L b) _ = _ from h)
    have:=GK h1
    cases c with
    | uni e n cs =>
      obtain ⟨h2,h⟩:=Cs h
      obtain ⟨a,b,c,z,rfl⟩:=SH h2
      cases h
      simp only [OR,Wg,this]; exact ⟨trivial,trivial⟩
    | _ => cases h
  | own e n cs => exact SN rfl h
  | dat n cs => exact SN rfl h
  | arg n cs => exact SN rfl h
  | pin u n cs => exact SN rfl h
  | _ => cases h
theorem Pt {tb : Tb} {L : PL} {c : Callee} {xs : List Operand} {ts : List TypeId} {v : V} (h : Ub tb L c xs ts = some v) : Ku tb (ofL L) c xs ts ∧ Jc (ofL L) c xs = v:=by
  unfold Ub at h
  split at h
  · obtain ⟨a,h1,h⟩:=Aa h
    simp only [Ku,Jc,EA h1]
    exact Zl h
  · obtain ⟨a,h1,h⟩:=Aa h
    obtain ⟨b,h2,h⟩:=Aa h
    simp only [Ku,Jc,EA h1,EA h2]
    split at h
    · cases h; exact ⟨trivial,rfl⟩
    · cases h
  · obtain ⟨a,h1,h⟩:=Aa h
    obtain ⟨b,h2,h⟩:=Aa h
    simp only [Ku,Jc,EA h1,EA h2]
    split at h
    · cases h; exact ⟨trivial,rfl⟩
    · cases h
  · cases h
theorem Nk {tb : Tb} {L : PL} {op : Op} {v : V} (h : VD tb L op = some v) : pc tb (ofL L) op ∧ pv tb (ofL L) op = v:=by
  cases op with
  | move x => exact Yc h
  | pick c a b =>
    obtain ⟨q,h1,h⟩:=Aa (show Ad (opO L c) _ = _ from h)
    simp only [pc,pv,EA h1]
    cases q with
    | bool e =>
      cases e with
      | true =>
        obtain ⟨c,h2,h⟩:=Aa h
        obtain ⟨h3,h⟩:=Cs h
        simp only [R3,R4,EA h2,if_true]; exact ⟨h3,(FL h).symm⟩
      | false =>
        obtain ⟨c,h2,h⟩:=Aa h
        obtain ⟨h3,h⟩:=Cs h
        simp only [R3,R4,EA h2,Bool.false_eq_true,if_false]; exact ⟨h3,(FL h).symm⟩
    | _ => cases h
  | binOp op t x y t' =>
    obtain ⟨a,h1,h⟩:=Aa (show Ad (opO L x) _ = _ from h)
    obtain ⟨b,h2,h⟩:=Aa h
    obtain ⟨h3,h⟩:=Cs h
    simp only [pc,pv,EA h1,EA h2]
    exact ⟨YK h3,(FL h).symm⟩
  | unOp op t x =>
    obtain ⟨a,h1,h⟩:=Aa (show Ad (opO L x) _ = _ from h)
    obtain ⟨h3,h⟩:=Cs h
    simp only [pc,pv,EA h1]
    exact ⟨d7 h3,(FL h).symm⟩
  | convert s d x =>
    obtain ⟨a,h1,h⟩:=Aa (show Ad (opO L x) _ = _ from h)
    simp only [pc,pv,EA h1]
    unfold cvB at h
    split at h
    · rename_i h2 h3
      cases h
      simp only [TE,TF,h2,h3]; exact ⟨trivial,trivial⟩
    · cases h
  | load t x => exact SQ h
  | fieldAddr t x f => exact XP h
  | call c => exact Pt h
  | _ => cases h
def Ov (L : PL) (g : Option (Option Nat × Bool)) (d : Nat) (v : Option PL) : Option PL:=match g with
  | none => v
  | some (some q,b) => Ad (lk L q) fun c => match c with
    | .bool e => match e,b with
      | true,true => v
      | false,false => v
      | _,_ => some ((d,.tup []) :: L)
    | .tup _ => some ((d,.tup []) :: L)
    | _ => none
  | some (none,_) => none
def eB (tb : Tb) (t : TypeId) (x : Operand) (d : Nat) (L : PL) : Option PL:=match x with
  | .const (.slice none 0 0) => Ad (tb t) fun dd => match dd with
    | .sl e _ _ _ => some ((d,.own e 0 []) :: L)
    | _ => none
  | .const (.pointer none) => some ((d,.undef) :: L)
  | .tmp p => Ad (lk L p) fun c => match c with
    | .box _ => some ((d,.cref p 0) :: L)
    | .cref b o => some ((d,.cref b o) :: L)
    | c => ifB c.isVal (Ad (O0 L (.tmp p) c) fun L' => some ((d,c) :: L'))
  | .const v => Ad (frc (cV v)) fun c => ifB c.isVal (some ((d,c) :: L))
  | _ => none
def loadT (tb : Tb) (t : TypeId) (x : Operand) (d : Nat) (L : PL) : Option PL:=Ad (tb t) fun dd => Ad (adO L x) fun a => match a with
  | .cref s off => Ad (lk L s) fun c => match c with
    | .box cs => ifB (Nat.ble (off + dd.size) cs.length) (Ad (frc (.box (IQ dd.size cs off))) fun b => Ad (frc (JW dd cs off)) fun v => some ((d,v) :: (s,b) :: L))
    | _ => none
  | .adr cs off => ifB (Nat.ble (off + dd.size) cs.length) (Ad (frc (getCells dd cs off)) fun v => some ((d,v) :: L))
  | _ => none
def kv (s i d : Nat) (L : PL) : Option PL:=Ad (lk L s) fun t => match t with
  | .tup cs => Ad (cs[i]?) fun c => ifB (cs.all V.isArg) (Ad (frc (.tup (cs.set i (dg2 c)))) fun t' => some ((d,c) :: (s,t') :: L))
  | _ => none
def ln (tb : Tb) (t : TypeId) (x y : Operand) (L : PL) : Option PL:=Ad (tb t) fun dd => Ad (adO L x) fun a => match a with
  | .cref s off => Ad (lk L s) fun b => match b with
    | .box cs => Ad (opO L y) fun c => ifB (c.isArg && (Nat.beq (GG c).length dd.size && Nat.ble (off + dd.size) cs.length)) (Ad (O0 L y c) fun L' => Ad (frc (.box (Oy cs off (GG c)))) fun b' => some ((s,b') :: L'))
    | _ => none
  | _ => none
def nbL (L : PL) (d : Nat) : Bool:=match lk L d with
  | some c => B9 c
  | none => true
theorem SW {L : PL} {d : Nat} (h : nbL L d = true) : B9 (ofL L d) = true:=by
  unfold nbL at h
  rw [N3]
  cases hl : lk L d with
  | none => rfl
  | some c => rw [hl] at h; exact h
def alO (tb : Tb) (t : TypeId) (d : Nat) (L : PL) : Option PL:=Ad (tb t) fun dd => ifB (nbL L d) (Ad (frc (.box (Sj dd))) fun b => some ((d,b) :: L))
def fN (x : Operand) (d : Nat) (L : PL) : Option PL:=Ad (opO L x) fun c => ifB c.isArg (Ad (O0 L x c) fun L' => ifB (nbL L' d) (Ad (frc (.box (GG c))) fun b => some ((d,b) :: L')))
def Uv (place : Nat -> Option (Nat × Nat)) : List (Nat × Operand) -> PL -> List V -> Option (PL × List V)
  | [],L,cs => some (L,cs)
  | (i,x) :: r,L,cs => Ad (place i) fun p => Ad (opO L x) fun c => ifB (c.isArg && (Nat.beq (GG c).length p.2 && Nat.ble (p.1 + p.2) cs.length)) (Ad (O0 L x c) fun L' => Uv place r L' (Oy cs p.1 (GG c)))
theorem PI {place : Nat -> Option (Nat × Nat)} : ∀ {ps : List (Nat × Operand)} {L L' : PL} {cs cs' : List V},Uv place ps L cs = some (L',cs') -> KQ place ps (ofL L) cs = some (ofL L',cs')
  | [],_,_,_,_,h => by cases h; rfl
  | (i,x) :: r,L,L',cs,cs',h => by
    rw [Uv] at h
    obtain ⟨p,h1,h⟩:=Aa h
    obtain ⟨c,h2,h⟩:=Aa h
    obtain ⟨h3,h⟩:=Cs h
    obtain ⟨L1,h4,h⟩:=Aa h
    simp only [Bool.and_eq_true] at h3
    rw [KQ,h1]
    simp only
    rw [EA h2,if_pos ⟨h3.1,Nat.eq_of_beq_eq_true h3.2.1,nb h3.2.2⟩,<- J5 h2 h4]
    exact PI h
def ks (tb : Tb) (t : TypeId) (ps : List (Nat × Operand)) (d : Nat) (L : PL) : Option PL:=Ad (tb t) fun dd => match dd with
  | .st _ z fs => Ad (Uv (fun i => fs[i]?) ps L z) fun q => Ad (frc (.agg q.2)) fun c => some ((d,c) :: q.1)
  | _ => none
def I3 (tb : Tb) (cns : List Nat) (o : LO) (L : PL) : Option PL:=match o with
  | ⟨some d,op,t,g⟩ => match op with
    | .assign x => match g,cns.contains d with
      | none,false => eB tb t x d L
      | _,_ => none
    | .move x => match cns.contains d with
      | true => (match g with
        | none => eB tb t x d L
        | _ => none)
      | false => Ov L g d (Ad (mvO L x) fun v => some ((d,v) :: L))
    | .load t x => match cns.contains d with
      | true => (match g with
        | none => loadT tb t x d L
        | _ => none)
      | false => Ov L g d (Ad (Zp tb L t x) fun v => some ((d,v) :: L))
    | .extract (.tmp s) i => match g with
      | none => kv s i d L
      | _ => none
    | .alloc t => match g with
      | none => alO tb t d L
      | _ => none
    | .box _ x => match g with
      | none => fN x d L
      | _ => none
    | .build t ps => Ov L g d (ks tb t ps.toList d L)
    | .pick c a b => Ov L g d (Ad (VD tb L (.pick c a b)) fun v => some ((d,v) :: L))
    | .binOp p t x y t' => Ov L g d (Ad (VD tb L (.binOp p t x y t')) fun v => some ((d,v) :: L))
    | .unOp p t x => Ov L g d (Ad (VD tb L (.unOp p t x)) fun v => some ((d,v) :: L))
    | .convert s t x => Ov L g d (Ad (VD tb L (.convert s t x)) fun v => some ((d,v) :: L))
    | .fieldAddr t x f => Ov L g d (Ad (faO tb L t x f) fun v => some ((d,v) :: L))
    | .nilCheck x => Ov L g d (Ad (j2 L x) fun v => some ((d,v) :: L))
    | .call c => match c.callee with
      | .value (.func _) => (match cns.contains d with
        | true => none
        | false => Ov L g d none)
      | .value (.tmp _) => none
      | .value (.const _) => none
      | .value (.global _) => none
      | _ => Ov L g d (Ad (Ub tb L c.callee c.args.toList c.argTypes.toList) fun v => some ((d,v) :: L))
    | .index .. => Ov L g d none
    | .indexAddr .. => Ov L g d none
    | .slice .. => Ov L g d none
    | .buildSlice .. => Ov L g d none
    | .field .. => Ov L g d none
    | _ => none
  | ⟨none,.store t x y,_,none⟩ => ln tb t x y L
  | _ => none
section
variable {P : Program} {tb : Tb} {cns : List Nat} {L L' : PL} {K : PS -> Prop} {d : Nat}
theorem Gy {op : Op} {t : TypeId} {g : Option (Option Nat × Bool)} {v : Option V} (hv : ∀ r,v = some r -> pc tb (ofL L) op ∧ pv tb (ofL L) op = r) (h : Ov L g d (Ad v fun v => some ((d,v) :: L)) = some L') (k : K (ofL L')) : H3 tb ⟨some d,op,t,g⟩ (ofL L) K:=by
  have run : ∀ {L' : PL},Ad v (fun v => some ((d,v) :: L)) = some L' -> K (ofL L') -> pc tb (ofL L) op ∧ K (upd (ofL L) d (pv tb (ofL L) op)):=by
    intro L' h k
    obtain ⟨r,h1,h⟩:=Aa h
    cases h
    obtain ⟨h2,h3⟩:=hv r h1
    exact ⟨h2,by rw [h3]; exact k⟩
  unfold Ov at h
  split at h
  · exact run h k
  · rename_i q b
    obtain ⟨c,h1,h⟩:=Aa h
    simp only [H3,GK h1]
    cases c with
    | bool e =>
      cases e <;> cases b <;> simp only at h <;> first
        | exact ⟨rfl,fun _ => run h k,fun e => by cases e⟩
        | (cases h; exact ⟨rfl,(fun e => by cases e),fun _ => k⟩)
    | tup cs => cases h; exact ⟨rfl,(fun e => by cases e),fun _ => k⟩
    | _ => cases h
  · cases h
theorem PP {o : LO} {g : Option (Option Nat × Bool)} {v : Option PL} {X : Prop} (ho : o.g = g) (hv : ∀ L',v = some L' -> K (ofL L') -> X) (h : Ov L g d v = some L') (k : K (ofL L')) : Ox o d (ofL L) K X:=by
  subst ho
  unfold Ov at h
  unfold Ox
  split at h
  · rename_i e; rw [e]; exact hv _ h k
  · rename_i q b e
    rw [e]
    obtain ⟨c,h1,h⟩:=Aa h
    simp only [GK h1]
    cases c with
    | bool e =>
      cases e <;> cases b <;> simp only at h <;> first
        | exact ⟨rfl,fun _ => hv _ h k,fun e => by cases e⟩
        | (cases h; exact ⟨rfl,(fun e => by cases e),fun _ => k⟩)
    | tup cs => cases h; exact ⟨rfl,(fun e => by cases e),fun _ => k⟩
    | _ => cases h
  · cases h
theorem T5 {x : Operand} {o : LO} (h : eB tb o.ty x d L = some L') (k : K (ofL L')) : Nc tb o x d (ofL L) K:=by
  unfold eB at h
  split at h
  · obtain ⟨dd,h1,h⟩:=Aa h
    cases dd with
    | sl e es eb ez => cases h; simp only [Nc,h1]; exact k
    | _ => cases h
  · cases h; simp only [Nc]; exact k
  · rename_i p
    obtain ⟨c,h1,h⟩:=Aa h
    have gen : ifB c.isVal (Ad (O0 L (.tmp p) c) fun L' => some ((d,c) :: L')) = some L' -> Nc tb o (.tmp p) d (ofL L) K:=by
      intro h
      obtain ⟨h2,h⟩:=Cs h
      obtain ⟨L1,h3,h⟩:=Aa h
      cases h
      have e:=J5 (x:=.tmp p) h1 h3
      rw [Jb,e] at k
      exact YH (GK h1) h2 (by rw [<- GK h1]; simp only [Bw] at k; rw [GK h1] at k ⊢; exact k)
    cases c with
    | box cs => cases h; simp only [Nc,GK h1]; exact k
    | cref b o => cases h; simp only [Nc,GK h1]; exact k
    | _ => exact gen h
  · rename_i v hn hn2
    obtain ⟨c,h1,h⟩:=Aa h
    obtain ⟨h2,h⟩:=Cs h
    cases h
    have e:=FL h1
    subst e
    unfold Nc
    split
    · rename_i he; injection he with he; exact absurd (by rw [he]) hn
    · rename_i he; injection he with he; exact absurd (by rw [he]) hn2
    · rename_i he; cases he
    · exact ⟨h2,k⟩
  · cases h
theorem fP {t : TypeId} {cal : Callee} {args : Array Operand} {ts : Array TypeId} {g : Option (Option Nat × Bool)} {L L' : PL} (h : Ov L g d (Ad (Ub tb L cal args.toList ts.toList) fun v => some ((d,v) :: L)) = some L') (k : K (ofL L')) : H3 tb ⟨some d,.call ⟨cal,args,ts⟩,t,g⟩ (ofL L) K:=Gy (op:=.call ⟨cal,args,ts⟩) (fun r hr => Pt hr) h k
theorem Qm {o : LO} (h : I3 tb cns o L = some L') (k : K (ofL L')) : evO P tb cns o (ofL L) K:=by
  obtain ⟨dst,op,t,g⟩:=o
  cases dst with
  | none =>
    unfold I3 at h
    split at h
    · rename_i he; cases he
    · rename_i t' x y ty he
      injection he with e1 e2 e3 e4
      subst e2 e4
      obtain ⟨dd,h1,h⟩:=Aa h
      obtain ⟨a,h2,h⟩:=Aa h
      cases a with
      | cref s off =>
        obtain ⟨b,h3,h⟩:=Aa h
        cases b with
        | box cs =>
          obtain ⟨c,h4,h⟩:=Aa h
          obtain ⟨h5,h⟩:=Cs h
          obtain ⟨L1,h6,h⟩:=Aa h
          obtain ⟨b',h7,h⟩:=Aa h
          cases h
          simp only [Bool.and_eq_true] at h5
          have e:=FL h7
          subst e
          simp only [evO,Yw,h1,Nt h2,GK h3,EM,M6,EA h4]
          refine ⟨trivial,h5.1,Nat.eq_of_beq_eq_true h5.2.1,nb h5.2.2,?_⟩
          rw [<- J5 h4 h6]; exact k
        | _ => cases h
      | _ => cases h
    · cases h
  | some d =>
    cases op with
    | assign x =>
      simp only [I3] at h
      split at h
      · rename_i hc
        simp only [evO,hc,Bool.false_eq_true,if_false]
        exact ⟨trivial,T5 (o:=⟨some d,.assign x,t,none⟩) h k⟩
      · cases h
    | move x =>
      simp only [I3] at h
      split at h
      · rename_i hc
        cases g with
        | none =>
          simp only [evO,hc,if_true]
          exact ⟨trivial,T5 (o:=⟨some d,.move x,t,none⟩) h k⟩
        | some g => cases h
      · rename_i hc
        simp only [evO,hc,Bool.false_eq_true,if_false]
        exact Gy (fun r hr => Yc hr) h k
    | load s x =>
      simp only [I3] at h
      split at h
      · rename_i hc
        cases g with
        | none =>
          simp only [evO,hc,if_true]
          refine ⟨trivial,?_⟩
          obtain ⟨dd,h1,h⟩:=Aa h
          obtain ⟨a,h2,h⟩:=Aa h
          simp only [RV,h1,Nt h2]
          cases a with
          | cref b off =>
            obtain ⟨c,h3,h⟩:=Aa h
            cases c with
            | box cs =>
              obtain ⟨h4,h⟩:=Cs h
              obtain ⟨b',h5,h⟩:=Aa h
              obtain ⟨v,h6,h⟩:=Aa h
              cases h
              rw [FL h5,FL h6] at k
              simp only [GK h3,EM,M6]
              exact ⟨nb h4,k⟩
            | _ => cases h
          | adr cs off =>
            obtain ⟨h4,h⟩:=Cs h
            obtain ⟨v,h6,h⟩:=Aa h
            cases h
            rw [FL h6] at k
            exact ⟨nb h4,k⟩
          | _ => cases h
        | some g => cases h
      · rename_i hc
        simp only [evO,hc,Bool.false_eq_true,if_false]
        exact Gy (fun r hr => SQ hr) h k
    | extract x i =>
      cases x with
      | tmp s =>
        cases g with
        | none =>
          simp only [I3] at h
          obtain ⟨a,h1,h⟩:=Aa h
          cases a with
          | tup cs =>
            obtain ⟨c,h2,h⟩:=Aa h
            obtain ⟨h3,h⟩:=Cs h
            obtain ⟨v,h4,h⟩:=Aa h
            cases h
            rw [FL h4] at k
            simp only [evO,XN,GK h1,h2]
            exact ⟨trivial,h3,k⟩
          | _ => cases h
        | some g => cases h
      | _ => cases h
    | alloc s =>
      cases g with
      | none =>
        obtain ⟨dd,h1,h⟩:=Aa (show Ad (tb s) _ = _ from h)
        obtain ⟨h2,h⟩:=Cs h
        obtain ⟨v,h4,h⟩:=Aa h
        cases h
        rw [FL h4] at k
        exact fY (SW h2) h1 k
      | some g => cases h
    | box ty x =>
      cases g with
      | none =>
        obtain ⟨c,h1,h⟩:=Aa (show Ad (opO L x) _ = _ from h)
        obtain ⟨h2,h⟩:=Cs h
        obtain ⟨L1,h3,h⟩:=Aa h
        obtain ⟨h4,h⟩:=Cs h
        obtain ⟨v,h5,h⟩:=Aa h
        cases h
        rw [FL h5] at k
        have e:=J5 h1 h3
        have h4:=SW h4
        rw [e] at h4
        simp only [evO,boxS,EA h1]
        exact ⟨trivial,h2,h4,by rw [<- e]; exact k⟩
      | some g => cases h
    | build s ps =>
      simp only [I3] at h
      simp only [evO]
      refine PP rfl (fun L1 h k => ?_) h k
      obtain ⟨dd,h1,h⟩:=Aa h
      cases dd with
      | st n z fs =>
        obtain ⟨q,h2,h⟩:=Aa h
        obtain ⟨c,h3,h⟩:=Aa h
        cases h
        rw [FL h3] at k
        simp only [MM,h1,PI (L':=q.1) (cs':=q.2) h2]
        exact k
      | _ => cases h
    | pick c a b => simp only [I3] at h; exact Gy (op:=.pick c a b) (fun r hr => Nk hr) h k
    | binOp p t x y t' => simp only [I3] at h; exact Gy (op:=.binOp p t x y t') (fun r hr => Nk hr) h k
    | unOp p t x => simp only [I3] at h; exact Gy (op:=.unOp p t x) (fun r hr => Nk hr) h k
    | convert s t x => simp only [I3] at h; exact Gy (op:=.convert s t x) (fun r hr => Nk hr) h k
    | fieldAddr t x f => simp only [I3] at h; exact Gy (op:=.fieldAddr t x f) (fun r hr => XP hr) h k
    | nilCheck x => simp only [I3] at h; exact Gy (op:=.nilCheck x) (fun r hr => Zz hr) h k
    | index s x y => simp only [I3] at h; exact Gy (op:=.index s x y) (v:=none) (fun r hr => by cases hr) h k
    | indexAddr s x y => simp only [I3] at h; exact Gy (op:=.indexAddr s x y) (v:=none) (fun r hr => by cases hr) h k
    | slice s x lo hi m => simp only [I3] at h; exact Gy (op:=.slice s x lo hi m) (v:=none) (fun r hr => by cases hr) h k
    | buildSlice s n ps => simp only [I3] at h; simp only [evO]; exact PP rfl (fun L1 h k => by cases h) h k
    | field s x f => simp only [I3] at h; simp only [evO]; exact PP rfl (fun L1 h k => by cases h) h k
    | call c =>
      obtain ⟨cal,args,ts⟩:=c
      simp only [I3] at h
      cases cal with
      | value x =>
        cases x with
        | func f =>
          simp only at h
          cases hcd : cns.contains d with
          | true => rw [hcd] at h; cases h
          | false =>
            rw [hcd] at h
            simp only at h
            show JM P cns ⟨some d,.call ⟨.value (.func f),args,ts⟩,t,g⟩ f args.toList (ofL L) K
            unfold JM
            rw [if_neg (by simpa using hcd)]
            left
            unfold Lg
            unfold Ov at h
            cases g with
            | none => cases h
            | some g =>
              obtain ⟨q,b⟩:=g
              cases q with
              | none => cases h
              | some q =>
                obtain ⟨c,h1,h⟩:=Aa (show Ad (lk L q) _ = _ from h)
                simp only [GK h1]
                cases c with
                | bool e =>
                  cases e <;> cases b <;> simp only at h <;> first
                    | (cases h; done)
                    | (cases h; exact ⟨rfl,(fun e => by cases e),fun _ => k⟩)
                | tup cs => cases h; exact ⟨rfl,(fun e => by cases e),fun _ => k⟩
                | _ => cases h
        | _ => cases h
      | builtin b =>
        have hp : H3 tb ⟨some d,.call ⟨.builtin b,args,ts⟩,t,g⟩ (ofL L) K:=Gy (op:=.call ⟨.builtin b,args,ts⟩) (fun r hr => Pt hr) h k
        cases b with
        | append =>
          simp only [evO,MO]
          split
          · rename_i heq; cases heq
          · rename_i _ heq _ _
            injection heq with heq
            subst heq
            refine PP rfl (fun L1 h k => ?_) h k
            obtain ⟨r,hr,_⟩:=Aa h
            cases hr
          · exact hp
        | _ => exact hp
      | _ => exact fP h k
    | _ => cases h
end
def Xm (tb : Tb) (cns : List Nat) : Nat -> List LO -> PL -> Option (List LO × PL)
  | 0,os,L => some (os,L)
  | _ + 1,[],_ => none
  | n + 1,o :: os,L => Ad (I3 tb cns o L) fun L' => Xm tb cns n os L'
def eC (L : PL) (R : List Nat) (p : Nat) : Bool:=match lk L p with
  | some c => bas R c
  | none => true
theorem T8 {L : PL} {R : List Nat} {p : Nat} (h : eC L R p = true) : bas R (ofL L p) = true:=by
  unfold eC at h
  rw [N3]
  cases hl : lk L p with
  | none => rfl
  | some c => rw [hl] at h; exact h
def YJ (L : PL) (R W : List Nat) (p : Nat) : Bool:=match lk L p with
  | some c => XF R W p c
  | none => true
theorem Wk {L : PL} {R W : List Nat} {p : Nat} (h : YJ L R W p = true) : XF R W p (ofL L p) = true:=by
  unfold YJ at h
  rw [N3]
  cases hl : lk L p with
  | none => rfl
  | some c => rw [hl] at h; exact h
def Vf (L : PL) (p : Nat) : Bool:=match lk L p with
  | some c => Ve c
  | none => true
theorem Vg {L : PL} {p : Nat} (h : Vf L p = true) : Ve (ofL L p) = true:=by
  unfold Vf at h
  rw [N3]
  cases hl : lk L p with
  | none => rfl
  | some c => rw [hl] at h; exact h
def fM (L : PL) (p : Nat) : Bool:=match lk L p with
  | some c => aK c
  | none => false
theorem YN {L : PL} {p : Nat} (h : fM L p = true) : aK (ofL L p) = true:=by
  unfold fM at h
  rw [N3]
  cases hl : lk L p with
  | none => rw [hl] at h; cases h
  | some c => rw [hl] at h; exact h
def stepD (tb : Tb) (cns : List Nat) : Nat -> List (List Nat × List Nat) -> List LO -> PL -> Option (List (List Nat × List Nat) × List LO × PL)
  | 0,fps,os,L => some (fps,os,L)
  | n + 1,(R,W) :: fps,o :: os,L => ifB ((adP o.op).all (eC L R) && ((adC o.op).all (YJ L R W) && ((adS o.op).all (Vf L) && ((adU cns o).all (eC L R) && (ptS cns).all (fM L))))) (Ad (I3 tb cns o L) fun L' => stepD tb cns n fps os L')
  | _ + 1,_,_,_ => none
def WK (L : PL) : List Nat -> Option PL
  | [] => some []
  | s :: ss => Ad (lk L s) fun c => Ad (WK L ss) fun L' => some ((s,c) :: L')
def bA (L : PL) (ss : List Nat) : Option PL:=Ad (WK L ss) fun L' => ifB (okR L') (some L')
theorem SI {L : PL} : ∀ {ss : List Nat} {L' : PL},WK L ss = some L' -> okK (ofL L) L'
  | [],_,h => by cases h; trivial
  | s :: ss,_,h => by
    rw [WK] at h
    obtain ⟨c,h1,h⟩:=Aa h
    obtain ⟨L1,h2,h⟩:=Aa h
    cases h
    exact ⟨(GK h1) ▸ kr,SI h2⟩
theorem SJ {L L' : PL} {ss : List Nat} (h : bA L ss = some L') : okK (ofL L) L' ∧ okR L' = true:=by
  obtain ⟨L1,h1,h⟩:=Aa h
  obtain ⟨h2,h⟩:=Cs h
  cases h
  exact ⟨SI h1,h2⟩
def WH : Nat -> List V -> PL
  | _,[] => []
  | i,c :: cs => (i,c) :: WH (i + 1) cs
theorem X0 : ∀ (args : List V) (i s : Nat),okK (fun q => (args[q - i]?).getD (.tup [])) (WH i args)
  | [],_,_ => trivial
  | c :: cs,i,s => by
    refine ⟨by simpa using kr,?_⟩
    have h:=X0 cs (i + 1) s
    have key : ∀ (L : PL) (f g : PS),(∀ p ∈ L,f p.1 = g p.1) -> okK f L -> okK g L:=by
      intro L f g
      induction L with
      | nil => intro _ _; trivial
      | cons p L ih =>
        obtain ⟨q,c⟩:=p
        intro he hk
        exact ⟨by rw [<- he (q,c) (by simp)]; exact hk.1,ih (fun p hp => he p (by simp [hp])) hk.2⟩
    have hlow : ∀ (cs : List V) (j : Nat),∀ p ∈ WH j cs,j <= p.1:=by
      intro cs
      induction cs with
      | nil => intro j p hp; simp [WH] at hp
      | cons c cs ih =>
        intro j p hp
        simp only [WH,List.mem_cons] at hp
        rcases hp with rfl | hp
        · exact Nat.le_refl _
        · have:=ih (j + 1) p hp; omega
    refine key _ _ _ (fun p hp => ?_) h
    have:=hlow cs (i + 1) p hp
    rw [show p.1 - i = (p.1 - (i + 1)) + 1 by omega,List.getElem?_cons_succ]
section
variable {P : Program} {tb : Tb} {cns : List Nat} {L L' : PL} {K : PS -> Prop} {ops os : List LO} {fps fps' : List (List Nat × List Nat)}
theorem Tn : ∀ {n : Nat} {ops : List LO} {L : PL},Xm tb cns n ops L = some (os,L') -> evS P tb cns os (ofL L') K -> evS P tb cns ops (ofL L) K
  | 0,_,_,h,k => by cases h; exact k
  | _ + 1,[],_,h,_ => by cases h
  | n + 1,o :: ops,L,h,k => by
    rw [Xm] at h
    obtain ⟨L1,h1,h⟩:=Aa h
    exact Qm (K:=fun σ' => evS P tb cns ops σ' K) h1 (Tn h k)
theorem sp (n : Nat) (h : Xm tb cns n ops L = some (os,L')) (k : evS P tb cns os (ofL L') K) : evS P tb cns ops (ofL L) K:=Tn h k
theorem Tm : ∀ {n : Nat} {fps : List (List Nat × List Nat)} {ops : List LO} {L : PL},stepD tb cns n fps ops L = some (fps',os,L') -> evD P tb cns fps' os (ofL L') K -> evD P tb cns fps ops (ofL L) K
  | 0,_,_,_,h,k => by cases h; exact k
  | n + 1,[],_,_,h,_ => by cases h
  | n + 1,_ :: _,[],_,h,_ => by cases h
  | n + 1,(R,W) :: fps,o :: ops,L,h,k => by
    rw [stepD] at h
    obtain ⟨h1,h⟩:=Cs h
    obtain ⟨L1,h2,h⟩:=Aa h
    simp only [Bool.and_eq_true,List.all_eq_true] at h1
    refine evd (by unfold Wd; rw [Bool.and_eq_true,Bool.and_eq_true]; exact ⟨List.all_eq_true.2 fun p hp => T8 (h1.1 p hp),List.all_eq_true.2 fun p hp => Wk (h1.2.1 p hp),List.all_eq_true.2 fun p hp => Vg (h1.2.2.1 p hp)⟩) (by unfold adB bxS; rw [Bool.and_eq_true]; exact ⟨List.all_eq_true.2 fun p hp => T8 (h1.2.2.2.1 p hp),List.all_eq_true.2 fun p hp => YN (h1.2.2.2.2 p hp)⟩) ?_
    exact Qm (K:=fun σ' => evD P tb cns fps ops σ' K) h2 (Tm h k)
theorem sd (n : Nat) (h : stepD tb cns n fps ops L = some (fps',os,L')) (k : evD P tb cns fps' os (ofL L') K) : evD P tb cns fps ops (ofL L) K:=Tm h k
theorem X6 {q : Nat} {c b : Bool} (e : c = b) (h : lk L q = some (.bool c)) : ofL ((q,.bool b) :: L) = ofL L:=by
  subst e
  rw [Jb,<- GK h,Tw]
theorem qg (q : Nat) {c b : Bool} (e : c = b) (h : lk L q = some (.bool c)) (k : evS P tb cns ops (ofL ((q,.bool b) :: L)) K) : evS P tb cns ops (ofL L) K:=by rw [X6 e h] at k; exact k
theorem qgd (q : Nat) {c b : Bool} (e : c = b) (h : lk L q = some (.bool c)) (k : evD P tb cns fps ops (ofL ((q,.bool b) :: L)) K) : evD P tb cns fps ops (ofL L) K:=by rw [X6 e h] at k; exact k
end
section
variable {P : Program} {nt : Nat} {bx : List Nat} {l : LC} {Q : Exit -> PS -> Prop} {tb : Tb} {cns : List Nat} {L L' : PL}
theorem qk (ss : List Nat) (h : bA L ss = some L') (k : LS P nt bx l (ofL L') Q) : LS P nt bx l (ofL L) Q:=Ez L' (SJ h).1 (SJ h).2 k
theorem qi (args : List V) (hr : okR (WH 0 args) = true) (k : LS P nt bx l (ofL (WH 0 args)) Q) : LS P nt bx l (Ln args) Q:=Ez _ (X0 args 0 0) hr k
end
section
variable {P : Program} {tb : Tb} {cns : List Nat} {L : PL} {K : PS -> Prop} {d s t : Nat} {x y z : Operand}
def fL (L : PL) (x : Operand) : Option V:=Ad (opO L x) fun c => ifB c.isArg (some c)
theorem Rr {c : V} (h : fL L x = some c) : opV (ofL L) x = c ∧ c.isArg = true:=by
  obtain ⟨c',h1,h⟩:=Aa h
  obtain ⟨h2,h⟩:=Cs h
  cases h
  exact ⟨EA h1,h2⟩
theorem qa {c a : V} {xs : List Operand} {as : List V} (h1 : fL L x = some c) (h2 : er c = a) (h3 : erA (ofL L) xs as) : erA (ofL L) (x :: xs) (a :: as):=era (by rw [(Rr h1).1]; exact (Rr h1).2) (by rw [(Rr h1).1]; exact h2) h3
def kG : V -> Bool
  | .int .. | .bool .. | .str .. | .fn .. => true
  | _ => false
theorem qs {a : V} {xs : List Operand} {as : List V} (h1 : Ad (fL L x) (fun c => ifB (kG c) (some c)) = some a) (h3 : erA (ofL L) xs as) : erA (ofL L) (x :: xs) (a :: as):=by
  obtain ⟨c,h2,h⟩:=Aa h1
  obtain ⟨h4,h⟩:=Cs h
  cases h
  exact qa h2 (by cases a <;> first | rfl | cases h4) h3
theorem cnF (hc : cns.contains d = false) : (some d).toList.any cns.contains = false:=by simpa using hc
theorem qC {f : FuncId} {args : Array Operand} {ts : Array TypeId} {as : List V} {r : V} (he : erA (ofL L) args.toList as) (hs : Ag P f as r) (k : K (ofL ((d,r) :: L))) (hc : cns.contains d = false:=by rfl) : evO P tb cns ⟨some d,.call { callee:=.value (.func f),args:=args,argTypes:=ts },t,none⟩ (ofL L) K:=YV (cnF hc) he hs k
theorem qCt {f : FuncId} {p : Nat} {args : Array Operand} {ts : Array TypeId} {as : List V} {r : V} (hp : lk L p = some (.fn f)) (he : erA (ofL L) args.toList as) (hs : Ag P f as r) (k : K (ofL ((d,r) :: L))) (hc : cns.contains d = false:=by rfl) : evO P tb cns ⟨some d,.call { callee:=.value (.tmp p),args:=args,argTypes:=ts },t,none⟩ (ofL L) K:=by
  obtain ⟨h1,h2⟩:=Up he
  subst h2
  show (match opV (ofL L) (.tmp p) with
    | .fn f => JM P cns _ f args.toList (ofL L) K
    | _ => False)
  rw [show opV (ofL L) (.tmp p) = .fn f from GK hp]
  show JM P cns _ f args.toList (ofL L) K
  unfold JM
  rw [if_neg (by simpa using hc)]
  exact .inl ⟨h1,r,.inl hs,k⟩
def iaO (tb : Tb) (L : PL) (s : TypeId) (x y : Operand) : Option (Nat × List V × Int × Nat):=Ad (opO L x) fun a => Ad (Kf a) fun p => Ad (opO L y) fun b => match b with
  | .int _ i => Ad (tb s) fun dd => match dd with
    | .sl _ es _ _ => some (p.1,p.2,i,es)
    | _ => none
  | _ => none
theorem qI {α : Type} {f : α -> List V} {l : List α} {i : Int} {e : α} {n : Nat} (h : iaO tb L s x y = some (l.length,l.flatMap f,i,n)) (hf : ∀ x,(f x).length = n) (hi : AA l i = some e) (k : K (ofL ((d,.adr (f e ++ (l.drop (i.toNat + 1)).flatMap f) 0) :: L))) : evO P tb cns ⟨some d,.indexAddr s x y,t,none⟩ (ofL L) K:=by
  obtain ⟨a,h1,h⟩:=Aa h
  obtain ⟨p,h2,h⟩:=Aa h
  obtain ⟨b,h3,h⟩:=Aa h
  obtain ⟨g1,g2,g3⟩:=Am hi
  cases b with
  | int kk j =>
    obtain ⟨dd,h4,h⟩:=Aa h
    cases dd with
    | sl e' es eb ez =>
      simp only [Option.some.injEq,Prod.mk.injEq] at h
      obtain ⟨e1,e2,e3,e4⟩:=h
      subst e3 e4
      refine ga (n:=l.length) (cs:=l.flatMap f) (by rw [EA h1,h2]; cases p; cases e1; cases e2; rfl) (EA h3) h4 ⟨g1,g2⟩ ?_
      have:=(XR hf g3 0).resolve_right (by omega)
      rw [Nat.add_zero,List.drop_zero] at this
      rw [this]; exact k
    | _ => cases h
  | _ => cases h
def lm (tb : Tb) (L : PL) (s : TypeId) (x y : Operand) : Option (List UInt8 × Int):=Ad (opO L x) fun a => match a with
  | .str u => Ad (opO L y) fun b => match b with
    | .int _ i => ifB (QE (tb s)) (some (u,i))
    | _ => none
  | _ => none
theorem qX {u : List UInt8} {i : Int} {b : UInt8} (h : lm tb L s x y = some (u,i)) (hi : AA u i = some b) (k : K (ofL ((d,.int .u8 b.toNat) :: L))) : evO P tb cns ⟨some d,.index s x y,t,none⟩ (ofL L) K:=by
  obtain ⟨a,h1,h⟩:=Aa h
  cases a with
  | str u' =>
    obtain ⟨b',h3,h⟩:=Aa h
    cases b' with
    | int kk j =>
      obtain ⟨h4,h⟩:=Cs h
      cases h
      exact aX (EA h1) (EA h3) (QF h4) hi k
    | _ => cases h
  | _ => cases h
def bdO (dflt : Int) (L : PL) : Option Operand -> Option Int
  | none => some dflt
  | some x => Ad (opO L x) NX
theorem XG {dflt i : Int} {lo : Option Operand} (h : bdO dflt L lo = some i) : Rw dflt (lo.map (opV (ofL L))) = some i:=by
  cases lo with
  | none => exact h
  | some x =>
    obtain ⟨c,h1,h⟩:=Aa (show Ad (opO L x) _ = _ from h)
    simp only [Option.map_some,Rw,EA h1]; exact h
def fK : V -> Bool
  | .arg .. => true
  | _ => false
theorem W4 {a : V} (h : fK a = false) (n : Nat) (cs : List V) : QV a n cs = .dat n cs:=by cases a <;> first | rfl | cases h
def j8 (tb : Tb) (L : PL) (b : Bool) (s : TypeId) (x : Operand) (lo hi : Option Operand) : Option (Nat × List V × Nat × Int × Int):=Ad (opO L x) fun a => ifB (fK a == b) <| Ad (Kf a) fun p => Ad (tb s) fun dd => match dd with
  | .sl _ es _ _ => Ad (bdO 0 L lo) fun l => Ad (bdO p.1 L hi) fun h => some (p.1,p.2,es,l,h)
  | _ => none
theorem kZ {α : Type} {f : α -> List V} {lst : List α} {n : Nat} {lo hi : Option Operand} {l h : Int} {b : Bool} (hh : j8 tb L b s x lo hi = some (lst.length,lst.flatMap f,n,l,h)) (hf : ∀ x,(f x).length = n) (hb : 0 <= l ∧ l <= h ∧ h <= lst.length) (k : ∀ a,fK a = b -> K (ofL ((d,QV a (Cq lst l h).length ((Cq lst l h).flatMap f)) :: L))) : evO P tb cns ⟨some d,.slice s x lo hi none,t,none⟩ (ofL L) K:=by
  obtain ⟨a,h1,hh⟩:=Aa hh
  obtain ⟨hk,hh⟩:=Cs hh
  obtain ⟨p,h2,hh⟩:=Aa hh
  obtain ⟨dd,h3,hh⟩:=Aa hh
  cases dd with
  | sl e es eb ez =>
    obtain ⟨l',h5,hh⟩:=Aa hh
    obtain ⟨r',h6,hh⟩:=Aa hh
    simp only [Option.some.injEq,Prod.mk.injEq] at hh
    obtain ⟨e1,e2,e3,e4,e5⟩:=hh
    subst e3 e4 e5
    rw [e1] at h6
    exact aY (lst:=lst) (f:=f) (by rw [EA h1,h2]; cases p; cases e1; cases e2; rfl) h3 hf (XG h5) (XG h6) hb (by rw [EA h1]; exact k a (eq_of_beq hk))
  | _ => cases hh
theorem qSl {α : Type} {f : α -> List V} {lst : List α} {n : Nat} {lo hi : Option Operand} {l h : Int} (hh : j8 tb L false s x lo hi = some (lst.length,lst.flatMap f,n,l,h)) (hf : ∀ x,(f x).length = n) (hb : 0 <= l ∧ l <= h ∧ h <= lst.length) (k : K (ofL ((d,.dat (Cq lst l h).length ((Cq lst l h).flatMap f)) :: L))) : evO P tb cns ⟨some d,.slice s x lo hi none,t,none⟩ (ofL L) K :=
  kZ hh hf hb fun a ha => by rw [W4 ha]; exact k
def kq (L : PL) (x y : Operand) : Option (V × V):=Ad (opO L x) fun a => Ad (opO L y) fun b => some (a,b)
theorem qB {op : BinOp} {ta tc : TypeId} {c1 c2 v : V} (h : kq L x y = some (c1,c2)) (hc : Wm (tb ta) op c1 c2) (hv : frc (YL op c1 c2) = some v) (k : K (ofL ((d,v) :: L))) : evO P tb cns ⟨some d,.binOp op ta x y tc,t,none⟩ (ofL L) K:=by
  obtain ⟨a,h1,h⟩:=Aa h
  obtain ⟨b,h2,h⟩:=Aa h
  cases h
  rw [FL hv] at k
  exact aS (EA h1) (EA h2) hc k
def ko (tb : Tb) (L : PL) (s : TypeId) (p q : Nat) : Option (Nat × List V × Nat × Nat × List V × V × PL):=Ad (lk L p) fun a => match a with
  | .own e n cs => Ad (O0 L (.tmp p) (.own e n cs)) fun L1 => Ad (lk L1 q) fun c => Ad (Kf c) fun r => Ad (O0 L1 (.tmp q) c) fun L2 => Ad (tb s) fun dd => match dd with
    | .sl e' es _ _ => ifB (Nat.beq e e' && c.isVal) (some (n,cs,es,r.1,r.2,c,L2))
    | _ => none
  | _ => none
theorem qA {α : Type} (f : α -> List V) (l m : List α) {es p q : Nat} {e : TypeId} {ds : List V} {c : V} {L2 : PL} (h : ko tb L s p q = some (l.length,l.flatMap f,es,m.length,ds,c,L2)) (he : lk L p = some (.own e l.length (l.flatMap f))) (hd : ds.length = m.length * es) (ha : T2 c = m.flatMap f) (hl : l.length + m.length <= lim)
    (k : K (ofL ((d,.own e (l ++ m).length ((l ++ m).flatMap f)) :: L2))) : evO P tb cns ⟨some d,.call { callee:=.builtin .append,args := #[.tmp p,.tmp q],argTypes := #[s,s] },t,none⟩ (ofL L) K:=by
  obtain ⟨a,h1,h⟩:=Aa h
  rw [he] at h1
  cases h1
  obtain ⟨L1,h2,h⟩:=Aa h
  obtain ⟨c',h3,h⟩:=Aa h
  obtain ⟨r,h4,h⟩:=Aa h
  obtain ⟨L3,h5,h⟩:=Aa h
  obtain ⟨dd,h6,h⟩:=Aa h
  cases dd with
  | sl e' es' eb ez =>
    dsimp only at h
    obtain ⟨h7,h⟩:=Cs h
    simp only [Bool.and_eq_true] at h7
    have e1:=Nat.eq_of_beq_eq_true h7.1
    have h:=Option.some.inj h
    simp only [Prod.mk.injEq] at h
    obtain ⟨_,_,e2,e3,e4,e5,e6⟩:=h
    subst e1 e2 e5 e6
    have t1:=J5 (x:=.tmp p) he h2
    have t2:=J5 (x:=.tmp q) h3 h5
    simp only [Bw,GK he] at t1
    have t1' : ofL L1 = upd (ofL L) p (.dat l.length (l.flatMap f)):=t1
    refine aQ (f:=f) (l:=l) (m:=m) (c2:=c') (ds:=ds) (GK he) (by rw [<- t1']; exact GK h3) (by rw [h4]; cases r; cases e3; cases e4; rfl) hd h6 ha hl h7.2 ?_
    rw [Jb,t2] at k
    simp only [Bw,GK h3,t1'] at k
    exact k
  | _ => cases h
def bsO (tb : Tb) (L : PL) (s : TypeId) (n : Nat) (ps : List (Nat × Operand)) : Option (TypeId × Nat × PL × List V):=Ad (tb s) fun dd => match dd with
  | .sl e es _ ez => ifB (Nat.ble (n * es) 16777216) (Ad (Uv (fun i => some (i * es,es)) ps L (Oz ez es n)) fun q => Ad (XS q.2) fun cs => some (e,es,q.1,cs))
  | _ => none
theorem qBs {α : Type} (f : α -> List V) (l : List α) {e : TypeId} {es n : Nat} {ps : Array (Nat × Operand)} {L2 : PL} {cs : List V} (h : bsO tb L s n ps.toList = some (e,es,L2,cs)) (hn : l.length = n) (hc : cs = l.flatMap f) (hf : ∀ x,(f x).length = es) (k : K (ofL ((d,.own e l.length (l.flatMap f)) :: L2))) : evO P tb cns ⟨some d,.buildSlice s n ps,t,none⟩ (ofL L) K:=by
  obtain ⟨dd,h1,h⟩:=Aa h
  cases dd with
  | sl e' es' eb ez =>
    obtain ⟨h2,h⟩:=Cs h
    obtain ⟨q,h3,h⟩:=Aa h
    obtain ⟨cs',h4,h⟩:=Aa h
    cases h
    have e1:=PN h4
    subst hc
    simp only [evO,Ox,XH,h1,PI (L':=q.1) (cs':=q.2) h3]
    rw [<- e1]
    refine ⟨nb h2,?_,?_⟩
    · rw [AE hf,hn]
    · rw [hn] at k; exact k
  | _ => cases h
def mkO (tb : Tb) (L : PL) (s : TypeId) (x y : Operand) : Option (Int × Int × TypeId × Nat × List V):=Ad (opO L x) fun a => Ad (opO L y) fun b => match a,b with
  | .int _ n,.int _ m => Ad (tb s) fun dd => match dd with
    | .sl e es _ ez => some (n,m,e,es,ez)
    | _ => none
  | _,_ => none
theorem c7 {n m : Int} {e : TypeId} {es : Nat} {ez : List V} (h : mkO tb L s x y = some (n,m,e,es,ez)) : ∃ k0 k1 eb,opV (ofL L) x = .int k0 n ∧ opV (ofL L) y = .int k1 m ∧ tb s = some (.sl e es eb ez):=by
  obtain ⟨a,h1,h⟩:=Aa h
  obtain ⟨b,h2,h⟩:=Aa h
  cases a <;> first | (cases h; done) | skip
  cases b <;> first | (cases h; done) | skip
  obtain ⟨dd,h3,h⟩:=Aa h
  cases dd <;> first | (cases h; done) | skip
  cases h
  exact ⟨_,_,_,EA h1,EA h2,h3⟩
theorem qMu {α : Type} (f : α -> List V) (z : α) {e : TypeId} {es : Nat} {ez : List V} {n : Int} (hc : cns.contains d = true) (h : mkO tb L s x y = some (n,n,e,es,ez)) (hz : f z = ez) (hez : ez.length = es) (hn : 0 <= n ∧ n.toNat <= lim) (hb : nbL L d = true) (k : K (ofL ((d,.uni e (List.replicate n.toNat z).length ((List.replicate n.toNat z).flatMap f)) :: L))) : evO P tb cns ⟨some d,.makeSlice s x y,t,none⟩ (ofL L) K:=by
  obtain ⟨k0,k1,eb,h1,h2,h3⟩:=c7 h
  exact aW hc h1 h2 h3 hz hez hn (SW hb) k
def UZ (D : List Nat) (L : PL) : PL:=L.map fun p => (p.1,if D.contains p.1 = true then .undef else match EB p.2 with
  | some b => if D.contains b = true then .undef else p.2
  | none => p.2)
theorem Ng (D : List Nat) : ∀ L : PL,ofL (UZ D L) = kill D (ofL L)
  | [] => by funext s; simp [UZ,ofL,kill,EB]
  | (q,c) :: L => by
    have ih:=Ng D L
    funext s
    show ofL ((q,_) :: UZ D L) s = _
    rw [Jb]
    by_cases e : s = q
    · subst e
      rw [upd_same]
      unfold kill
      rw [Jb,upd_same]
      rfl
    · rw [upd_ne _ _ e,ih]
      unfold kill
      rw [Jb,upd_ne _ _ e]
def frL : PL -> Option PL
  | [] => some []
  | (s,.undef) :: L => Ad (frL L) fun L' => some ((s,.undef) :: L')
  | (s,c) :: L => Ad (frc c) fun c => Ad (frL L) fun L' => some ((s,c) :: L')
theorem SC : ∀ {L L' : PL},frL L = some L' -> L' = L
  | [],_,h => by cases h; rfl
  | (s,c) :: L,L',h => by
    unfold frL at h
    split at h
    · rename_i he; cases he
    · rename_i he; cases he
      obtain ⟨L1,h1,h⟩:=Aa h
      cases h; rw [SC h1]
    · rename_i he; cases he
      obtain ⟨c1,h0,h⟩:=Aa h
      obtain ⟨L1,h1,h⟩:=Aa h
      cases h; rw [SC h1,FL h0]
theorem qTu {e : TypeId} {n : Nat} {cs : List V} {L1 : PL} (hc : cns.contains d = true) (h : lk L s = some (.uni e n cs)) (hk : frL (UZ [s] L) = some L1) (k : K (ofL ((d,.own e n cs) :: (s,.dat n cs) :: L1))) : evO P tb cns ⟨some d,.move (.tmp s),t,none⟩ (ofL L) K:=by
  rw [SC hk] at k
  refine YW hc (GK h) ?_
  rw [<- Ng]; exact k
theorem qAu {e : TypeId} {n : Nat} {cs : List V} {L1 : PL} (hc : cns.contains d = true) (h : lk L s = some (.uni e n cs)) (hk : frL (UZ [s] L) = some L1) (hn : nbL L1 d = true) (k : K (ofL ((d,.uni e n cs) :: L1))) : evO P tb cns ⟨some d,.assign (.tmp s),t,none⟩ (ofL L) K:=by
  have e1:=SC hk
  subst e1
  refine aR hc (GK h) (by rw [<- Ng]; exact SW hn) ?_
  rw [<- Ng]; exact k
def iuO (tb : Tb) (L : PL) (s : TypeId) (x y : Operand) : Option (Nat × Nat × Int × Nat):=Ad (opO L x) fun a => match a with
  | .same b => Ad (lk L b) fun u => match u with
    | .uni _ n _ => Ad (opO L y) fun c => match c with
      | .int _ i => Ad (tb s) fun dd => match dd with
        | .sl _ es _ _ => some (b,n,i,es)
        | _ => none
      | _ => none
    | _ => none
  | _ => none
theorem qIu {b n es : Nat} {i : Int} (h : iuO tb L s x y = some (b,n,i,es)) (hi : 0 <= i ∧ i < n) (k : K (ofL ((d,.cref b (i.toNat * es)) :: L))) : evO P tb cns ⟨some d,.indexAddr s x y,t,none⟩ (ofL L) K:=by
  obtain ⟨a,h1,h⟩:=Aa h
  cases a <;> first | (cases h; done) | skip
  obtain ⟨u,h2,h⟩:=Aa h
  cases u <;> first | (cases h; done) | skip
  obtain ⟨c,h3,h⟩:=Aa h
  cases c <;> first | (cases h; done) | skip
  obtain ⟨dd,h4,h⟩:=Aa h
  cases dd <;> first | (cases h; done) | skip
  cases h
  exact aT (EA h1) (GK h2) (EA h3) h4 hi k
theorem qLu {α : Type} {f : α -> List V} {n b m : Nat} (off : Nat) {l : List α} {i : Int} {e : α} {et : TypeId} {dd : TyD} {v : V} (hc : cns.contains d = false) (hx : adO L x = some (.cref b (i.toNat * n + off))) (hb : lk L b = some (.uni et m (l.flatMap f))) (hf : ∀ x,(f x).length = n) (hi : AA l i = some e) (ht : tb s = some dd) (ho : Nat.ble (off + dd.size) n = true) (hg : frc (getCells dd (f e) off) = some v) (k : K (ofL ((d,v) :: L))) : evO P tb cns ⟨some d,.load s x,t,none⟩ (ofL L) K:=by
  rw [FL hg] at k
  exact aV hc (Nt hx) (GK hb) hf hi ht (nb ho) rfl k
theorem qSu {ty : TypeId} {α : Type} {f : α -> List V} {n b : Nat} {l : List α} {i : Int} (e : α) {et : TypeId} {dd : TyD} {c1 : V} {L1 : PL} (hx : adO L x = some (.cref b (i.toNat * n))) (hb : lk L b = some (.uni et l.length (l.flatMap f))) (hf : ∀ x,(f x).length = n) (hi : 0 <= i ∧ i < l.length) (hy : opO L y = some c1) (ht : tb t = some dd) (ha : c1.isArg = true) (hn : n = dd.size) (hc : GG c1 = f e) (hL : O0 L y c1 = some L1)
    (k : K (ofL ((b,.uni et (Ky l i e).length ((Ky l i e).flatMap f)) :: L1))) : evO P tb cns ⟨none,.store t x y,ty,none⟩ (ofL L) K:=by
  refine aZ (Nt hx) (GK hb) hf hi (EA hy) ht ha hn hc ?_
  rw [<- J5 hy hL]; exact k
end
section
variable {P : Program} {nt : Nat} {bx : List Nat} {Q : Exit -> PS -> Prop} {L : PL}
theorem qT {s : Nat} {x y : LC} {b : Bool} (hb : lk L s = some (.bool b)) (e : b = true) (h : LS P nt bx x (ofL L) Q) : LS P nt bx (.cond (.tmp s) x y) (ofL L) Q:=jo (GK hb) e h
theorem qF {s : Nat} {x y : LC} {b : Bool} (hb : lk L s = some (.bool b)) (e : b = false) (h : LS P nt bx y (ofL L) Q) : LS P nt bx (.cond (.tmp s) x y) (ofL L) Q:=jn (GK hb) e h
end
section
variable {P : Program} {tb : Tb} {cns : List Nat} {L : PL} {K : PS -> Prop} {d s t : Nat} {x : Operand}
theorem qFd {f : Nat} (off : Nat) {v : V} (hf : eM P s f = some off) (h : Ad (opO L x) (fun a => match a with
  | .agg cs => Ad (cs[off]?) fun c => frc (dg1 c)
  | _ => none) = some v) (k : K (ofL ((d,v) :: L))) : evO P tb cns ⟨some d,.field s x f,t,none⟩ (ofL L) K:=by
  obtain ⟨a,h1,h⟩:=Aa h
  cases a with
  | agg cs =>
    obtain ⟨c,h2,h⟩:=Aa h
    rw [FL h] at k
    simp only [evO,Ox,YY,hf,EA h1,h2]
    exact k
  | _ => cases h
end
def VZ (tb : Tb) (cns : List Nat) : List LO -> PL -> Option PL
  | [],L => some L
  | o :: os,L => Ad (I3 tb cns o L) fun L' => VZ tb cns os L'
def eW (tb : Tb) : Nat -> LC -> PL -> Option (LC × PL)
  | 0,l,L => some (l,L)
  | n + 1,.seq (.rgn cns ops) y,L => Ad (VZ tb cns ops L) fun L' => eW tb n y L'
  | _ + 1,_,_ => none
section
variable {P : Program} {nt : Nat} {bx : List Nat} {Q : Exit -> PS -> Prop} {tb : Tb}
theorem Tl {cns : List Nat} {K : PS -> Prop} : ∀ {ops : List LO} {L L' : PL},VZ tb cns ops L = some L' -> K (ofL L') -> evS P tb cns ops (ofL L) K
  | [],_,_,h,k => by cases h; exact k
  | o :: ops,L,_,h,k => by
    rw [VZ] at h
    obtain ⟨L1,h1,h⟩:=Aa h
    exact Qm (K:=fun σ' => evS P tb cns ops σ' K) h1 (Tl h k)
theorem VK (htb : KD P tb) : ∀ {n : Nat} {l l' : LC} {L L' : PL},eW tb n l L = some (l',L') -> LS P nt bx l' (ofL L') Q -> LS P nt bx l (ofL L) Q
  | 0,_,_,_,_,h,k => by cases h; exact k
  | n + 1,l,l',L,L',h,k => by
    cases l with
    | seq a y =>
      cases a with
      | rgn cns ops =>
        obtain ⟨L1,h1,h⟩:=Aa (show Ad (VZ tb cns ops L) (fun L' => eW tb n y L') = _ from h)
        exact Zr htb (Tl h1 (VK htb h k))
      | _ => exact absurd (show none = some _ from h) (by simp)
    | _ => exact absurd (show none = some _ from h) (by simp)
abbrev Jn (K : PS -> Prop) (L : PL) : Prop := ∀ σ : PS,okK σ L -> K σ
theorem lh {l : LC} {σ : PS} {L : PL} (hk : okK σ L) (h2 : okR L = true) (h : LS P nt bx l (ofL L) Q) : LS P nt bx l σ Q:=Ez L hk h2 h
end
def kO (cns : List Nat) (o : LO) : Bool:=match o.op,o.dst with
  | .move _,some d => !cns.contains d
  | _,_ => false
def fpO (base : List (Nat × Nat)) (cns : List Nat) (o : LO) : List Nat × List Nat:=match spc cns o with
  | true => ([],o.dst.toList)
  | false =>
  let R:=Pg o.op ++ match o.op with
    | .alloc _ => o.dst.toList
    | .call _ => o.dst.toList.filter cns.contains
    | _ => []
  let R:=R ++ match kO cns o with
    | true => []
    | false => base.filterMap fun p => if R.contains p.1 then some p.2 else none
  (R ++ gT o,o.dst.toList ++ if simple cns o = true then base.filterMap (fun p => if (adC o.op).contains p.1 then some p.2 else none) else R)
def cnO : List (Nat × List Nat) -> Nat -> List Nat
  | [],_ => []
  | (i,c) :: r,id => match Nat.beq id i with
    | true => c
    | false => cnO r id
def Rl (base : List (Nat × Nat)) (cn : List (Nat × List Nat)) : Code -> LC
  | .skip => .skip
  | .region id ops d => match d with
    | true => .drw (cnO cn id) ((ops.toList.map (Bd ops)).map (fpO base (cnO cn id))) (ops.toList.map edg) (ops.toList.map (Bd ops))
    | false => .rgn (cnO cn id) (ops.toList.map (Bd ops))
  | .seq a b => .seq (Rl base cn a) (Rl base cn b)
  | .cond c a b => .cond c (Rl base cn a) (Rl base cn b)
  | .block id a => .blk id (Rl base cn a)
  | .loop a => .loop [] (Rl base cn a)
  | .exit id => .exit id
  | .ret => .ret
  | _ => .bad
theorem Lo (base : List (Nat × Nat)) (cn : List (Nat × List Nat)) : ∀ c : Code,Hy c = erC (Rl base cn c)
  | .skip => rfl
  | .region id ops d => by cases d <;> simp [Hy,Rl,erC]
  | .seq a b => by rw [Hy,Rl,erC,Lo base cn a,Lo base cn b]
  | .cond c a b => by rw [Hy,Rl,erC,Lo base cn a,Lo base cn b]
  | .block id a => by rw [Hy,Rl,erC,Lo base cn a]
  | .loop a => by rw [Hy,Rl,erC,Lo base cn a]
  | .exit id => rfl
  | .ret => rfl
  | .rangeFunc .. => rfl
  | .scope .. => rfl
  | .label .. => rfl
  | .goto .. => rfl
  | .refuse .. => rfl
def cdF (f : Func) : Code:=match f.body with
  | some c => c
  | none => .skip
def jU (bx : List Nat) (base : List (Nat × Nat)) (cn : List (Nat × List Nat)) (fn : Func) : Bool :=
  fn.body.isSome && ((fn.name == "runtime.NumGoroutine") == false && (okC fn.ntmps bx (cdF fn) && (decide (fn.results.toList.map Kx).Nodup && okL bx (Rl base cn (cdF fn)))))
theorem Av {P : Program} {f : Nat} {fn : Func} {bx : List Nat} {base : List (Nat × Nat)} {cn : List (Nat × List Nat)} (h1 : P.funcs[f]? = some fn) (h2 : jU bx base cn fn = true) : Lit P f fn.ntmps bx fn.results.toList (Rl base cn (cdF fn)):=by
  simp only [jU,Bool.and_eq_true] at h2
  obtain ⟨h2,h3,h4,h5,h6⟩:=h2
  obtain ⟨c,hc⟩:=Option.isSome_iff_exists.1 h2
  refine ⟨⟨fn,c,h1,hc,eq_of_beq h3,rfl,rfl,?_,?_⟩,of_decide_eq_true h5,h6⟩
  · rw [<- Lo]; unfold cdF; rw [hc]
  · unfold cdF at h4; rw [hc] at h4; exact h4
end Go.Proofs.YtkclaipnejgloaaGreatDoor
namespace Go.Proofs.YtkclaipnejgloaaGreatDoor
open Go.RowKit
theorem B8 {S O : Type} {body : (S -> Option O) -> S -> Option O} {out : O} (f : Nat -> S) : ∀ (n : Nat),(∀ k,k < n -> ∀ rec,body rec (f k) = rec (f (k + 1))) -> (∀ rec,body rec (f n) = some out) -> ∀ m,n < m -> Ah body m (f 0) = some out:=by
  have key : ∀ (d n : Nat),(∀ k,k < n -> ∀ rec,body rec (f k) = rec (f (k + 1))) -> (∀ rec,body rec (f n) = some out) -> ∀ k,k + d = n -> ∀ m,d < m -> Ah body m (f k) = some out:=by
    intro d n h1 h2
    induction d with
    | zero =>
      intro k hk m hm
      cases m with
      | zero => omega
      | succ m => rw [show k = n by omega]; exact h2 _
    | succ d ih =>
      intro k hk m hm
      cases m with
      | zero => omega
      | succ m =>
        show body (Ah body m) (f k) = some out
        rw [h1 k (by omega)]
        exact ih (k + 1) (by omega) m (by omega)
  intro n h1 h2 m hm
  exact key n n h1 h2 0 (by omega) m hm
theorem wrap_in {n : Int} (h : -9223372036854775808 <= n ∧ n <= 9223372036854775807) : IntKind.i64.wrap n = n:=by
  unfold IntKind.wrap
  simp [IntKind.signed,IntKind.bits] <;> omega
theorem AF {k n : Nat} (h : k < n) (hn : n <= maxLen) : IntKind.i64.wrap ((k : Int) + 1) = ((k + 1 : Nat) : Int):=by
  rw [wrap_in (by unfold maxLen at hn; omega)]; simp
theorem F0 {α : Type} (l : List α) (k : Nat) : AA l (k : Int) = l[k]?:=by simp [AA]
theorem Ai {α : Type} {l : List α} {k : Nat} (h : k < l.length) : AA l (k : Int) = some l[k]:=by rw [F0,List.getElem?_eq_getElem h]
theorem FZ {n : Nat} (h : n <= lim) : n < fz:=by unfold lim at h; unfold fz; omega
theorem Oo {α β : Type} {a : List α} {g : α -> Option β} {h : α -> β} {B : (List β × Int -> Option (List β)) -> List β × Int -> Option (List β)} {z : β}
    (hB : ∀ rec y i,B rec (y,i) = cond (decide (i < (List.length a : Int))) (Ad (AA a i) fun e => Ad (g e) fun v => Ad (AA y i) fun _ => rec (Ky y i v,IntKind.i64.wrap (i + 1))) (some y))
    (hg : ∀ e ∈ a,g e = some (h e)) (hl : a.length <= lim) : Ah B fz (List.replicate (Int.toNat (List.length a : Int)) z,0) = some (a.map h):=by
  have:=B8 (body:=B) (out:=a.map h) (fun k => ((a.take k).map h ++ List.replicate (a.length - k) z,(k : Int))) a.length (fun k hk rec => ?_) (fun rec => ?_) fz (FZ hl)
  · simpa using this
  · rw [hB]
    have h1 : (decide ((k : Int) < (List.length a : Int))) = true:=by simp; omega
    have hlen : ((a.take k).map h ++ List.replicate (a.length - k) z).length = a.length:=by simp; omega
    rw [h1,cond_true,Ai hk]
    simp only [Ad]
    rw [hg _ (List.getElem_mem hk)]
    simp only
    rw [Ai (by rw [hlen]; exact hk)]
    simp only
    congr 1
    rw [AF hk (Au hl)]
    congr 1
    unfold Ky
    rw [Int.toNat_natCast]
    have h2 : ((a.take k).map h).length = k:=by simp; omega
    rw [List.set_append_right _ _ (by omega),h2,Nat.sub_self,List.take_succ_eq_append_getElem hk,List.map_append]
    have h3 : a.length - k = (a.length - (k + 1)) + 1:=by omega
    rw [h3,List.replicate_succ]
    simp
  · rw [hB]
    simp
theorem NK {α : Type} {a : List α} {g : α -> α -> Option Bool} {B : (Int -> Option (Sum Unit Bool)) -> Int -> Option (Sum Unit Bool)}
    (hB : ∀ rec i,B rec i = cond (decide (i < (List.length a : Int))) (Ad (AA a i) fun x => Ad (AA a i) fun y => Ad (g x y) fun v => cond (!v) (some (.inr false)) (rec (IntKind.i64.wrap (i + 1)))) (some (.inl ())))
    (hg : ∀ e ∈ a,g e e = some true) (hl : a.length <= lim) : Ah B fz 0 = some (.inl ()):=by
  refine B8 (body:=B) (fun k => (k : Int)) a.length (fun k hk rec => ?_) (fun rec => ?_) fz (FZ hl)
  · rw [hB]
    have h1 : (decide ((k : Int) < (List.length a : Int))) = true:=by simp; omega
    rw [h1,cond_true,Ai hk]
    simp only [Ad,hg _ (List.getElem_mem hk),Bool.not_true,cond_false]
    rw [AF hk (Au hl)]
  · rw [hB]; simp
theorem Ar {α : Type} {p : Prop} [Decidable p] {x : Option α} (h : p) : chk p x = x:=by unfold chk; rw [if_pos h]
theorem N5 {n : Nat} (h : n <= lim) : (0 : Int) <= (n : Int) ∧ Int.toNat (n : Int) <= lim:=by rw [Int.toNat_natCast]; exact ⟨by omega,h⟩
theorem Ft {n : Nat} (h : n <= 1048576) : n <= lim:=by unfold lim; omega
def SzR (left : Int) (s : Option Int) (sm : Prop) (t : Nat) : Prop := ∃ v,s = some v ∧ (v < 0 ∨ (v + (t : Int) <= left ∧ 0 <= v ∧ sm))
def tzL {α : Type} (f : α -> Nat) : List α -> Nat
  | [] => 0
  | x :: l => f x + tzL f l
theorem V9 {α : Type} {f : α -> Nat} : ∀ (a b : List α),tzL f (a ++ b) = tzL f a + tzL f b
  | [],b => by simp [tzL]
  | x :: a,b => by rw [List.cons_append,tzL,tzL,V9 a b]; omega
theorem eX {n : Nat} {left : Int} (h : 0 <= left ∧ left <= 1048576) (hn : n <= maxLen) : ∃ v,IntKind.i64.wrap (left - (n : Int)) = v ∧ (v < 0 ∨ (v + (n : Int) <= left ∧ 0 <= v ∧ n <= 1048576)):=by
  rw [wrap_in (by unfold maxLen at hn; omega)]
  refine ⟨_,rfl,?_⟩
  by_cases hl : left - (n : Int) < 0
  · exact .inl hl
  · exact .inr ⟨by omega,by omega,by omega⟩
theorem Yx {n : Nat} {left : Int} (h : 0 <= left ∧ left <= 1048576) (hn : n <= maxLen) : SzR left (cond (decide ((IntKind.i64.wrap (left - (n : Int))) < 0)) (some (-1)) (some (IntKind.i64.wrap (left - (n : Int))))) (n <= 1048576) n:=by
  obtain ⟨v,e,p⟩:=eX h hn
  rw [e]
  rcases p with p | p
  · rw [decide_eq_true p]; exact ⟨-1,rfl,.inl (by omega)⟩
  · rw [decide_eq_false (by omega : ¬ v < 0)]; exact ⟨v,rfl,.inr p⟩
theorem Sd {α : Type} {a : List α} {g : α -> Int -> Option Int} {sm : α -> Prop} {tz : α -> Nat} {B : (Int × Int -> Option (Sum Int Int)) -> Int × Int -> Option (Sum Int Int)}
    (hB : ∀ rec l i,B rec (l,i) = cond (decide (i < (List.length a : Int))) (Ad (AA a i) fun e => Ad (g e l) fun v => cond (decide (v < 0)) (some (.inr (-1))) (rec (v,IntKind.i64.wrap (i + 1)))) (some (.inl l)))
    (hg : ∀ e ∈ a,∀ left,0 <= left ∧ left <= 1048576 -> SzR left (g e left) (sm e) (tz e)) {left : Int} (h : 0 <= left ∧ left <= 1048576) (hn : a.length <= maxLen) :
    SzR left (cond (decide ((IntKind.i64.wrap (left - (List.length a : Int))) < 0)) (some (-1)) (Ad (Ah B fz (IntKind.i64.wrap (left - (List.length a : Int)),0)) fun o => (match o with
      | .inl z => some z
      | .inr r => some r))) (a.length <= 1048576 ∧ ∀ e ∈ a,sm e) (a.length + tzL tz a):=by
  obtain ⟨v,e,p⟩:=eX h hn
  rw [e]
  rcases p with p | ⟨p1,p2,p3⟩
  · rw [decide_eq_true p]; exact ⟨-1,rfl,.inl (by omega)⟩
  rw [decide_eq_false (by omega : ¬ v < 0),cond_false]
  have key : ∀ d k l,k + d = a.length -> 0 <= l ∧ l + (tzL tz (a.take k) : Int) <= v -> (∀ e ∈ a.take k,sm e) -> ∀ m,d < m -> ∃ o,Ah B m (l,(k : Int)) = some o ∧ (o = .inr (-1) ∨ ∃ z,o = .inl z ∧ 0 <= z ∧ z + (tzL tz a : Int) <= v ∧ ∀ e ∈ a,sm e):=by
    intro d
    induction d with
    | zero =>
      intro k l hk hl hs m hm
      cases m with
      | zero => omega
      | succ m =>
        rw [List.take_of_length_le (by omega)] at hl
        refine ⟨.inl l,?_,.inr ⟨l,rfl,hl.1,hl.2,?_⟩⟩
        · show B (Ah B m) (l,(k : Int)) = _
          rw [hB]
          rw [decide_eq_false (by omega : ¬ (k : Int) < (List.length a : Int))]
          rfl
        · rw [List.take_of_length_le (by omega)] at hs; exact hs
    | succ d ih =>
      intro k l hk hl hs m hm
      cases m with
      | zero => omega
      | succ m =>
        have hlt : k < a.length:=by omega
        obtain ⟨u,e1,q⟩:=hg a[k] (List.getElem_mem hlt) l (by omega)
        have hstep : Ah B (m + 1) (l,(k : Int)) = cond (decide (u < 0)) (some (.inr (-1))) (Ah B m (u,((k + 1 : Nat) : Int))):=by
          show B (Ah B m) (l,(k : Int)) = _
          rw [hB,decide_eq_true (by omega : (k : Int) < (List.length a : Int)),cond_true,Ai hlt]
          simp only [Ad,e1,AF hlt hn]
        rcases q with q | ⟨q1,q2,q3⟩
        · exact ⟨.inr (-1),by rw [hstep,decide_eq_true q]; rfl,.inl rfl⟩
        · rw [hstep,decide_eq_false (by omega : ¬ u < 0),cond_false]
          have ht : tzL tz (a.take (k + 1)) = tzL tz (a.take k) + tz a[k]:=by rw [List.take_succ_eq_append_getElem hlt,V9]; simp [tzL]
          exact ih (k + 1) u (by omega) (by rw [ht]; omega) (fun e he => by
            rw [List.take_succ_eq_append_getElem hlt] at he
            rcases List.mem_append.1 he with he | he
            · exact hs e he
            · rw [List.mem_singleton.1 he]; exact q3) m (by omega)
  obtain ⟨o,e2,q⟩:=key a.length 0 v (by omega) (by simp [tzL]; omega) (by simp) fz (FZ (Ft p3))
  have e3 : Ah B fz (v,0) = some o:=by simpa using e2
  rw [e3]
  rcases q with rfl | ⟨z,rfl,q1,q2,q3⟩
  · exact ⟨-1,rfl,.inl (by omega)⟩
  · exact ⟨z,rfl,.inr ⟨by omega,q1,p3,q3⟩⟩
end Go.Proofs.YtkclaipnejgloaaGreatDoor
namespace Go.Proofs.YtkclaipnejgloaaGreatDoor
open Go.RowKit
set_option linter.unusedVariables false
def Yg (u : Value) : V -> V
  | .own _ n cs => .pin u n (erL cs)
  | c => c
def gv : V -> Bool
  | .own _ _ _ => true
  | _ => false
def am : V -> Bool
  | .int _ _ => true
  | .bool _ => true
  | .str _ => true
  | _ => false
def Jy : List V -> Bool
  | [] => false
  | c :: cs => (gv c && cs.all am) || (am c && Jy cs)
def KW : List V -> V
  | [] => .undef
  | c :: cs => match c with
    | .own e n ds => .own e n ds
    | _ => KW cs
section
variable {P : Program} {w : World} {St : Nat -> Nat -> Prop}
theorem Z3 {c : V} {v : Value} {b : List Nat} (hs : am c = true) (h : Ow P w St c v b) : b = []:=by
  cases c <;> first | exact h.1 | cases hs
theorem VR {c : V} (u : Value) (hs : am c = true) : Yg u c = c:=by cases c <;> first | rfl | cases hs
theorem VS : ∀ {cs : List V} {us : List Value} {b : List Nat},cs.all am = true -> AC P w St cs us b -> b = []
  | [],_,_,_,h => h.2
  | c :: cs,_,_,hs,⟨u,us',b1,b2,e1,e2,hc,h1,h2⟩ => by
    simp only [List.all_cons,Bool.and_eq_true] at hs
    rw [e2,Z3 hs.1 h1,VS hs.2 h2]; rfl
theorem R9 : ∀ {cs : List V} (u : Value),cs.all am = true -> cs.map (Yg u) = cs
  | [],_,_ => rfl
  | c :: cs,u,hs => by
    simp only [List.all_cons,Bool.and_eq_true] at hs
    rw [List.map_cons,VR u hs.1,R9 u hs.2]
theorem ZK {e : TypeId} {n : Nat} {cs : List V} {u : Value} {b : List Nat} (h : Ow P w St (.own e n cs) u b) : Ow P w St (.pin u n (erL cs)) u []:=by
  have:=Rd.erase _ (Ow.rd (.own e n cs) h rfl)
  exact ⟨rfl,rfl,this⟩
theorem V7 : ∀ {ds : List V},Jy ds = true -> ∃ e n cs,KW ds = .own e n cs
  | [],h => by cases h
  | c :: cs,h => by
    simp only [Jy,Bool.or_eq_true,Bool.and_eq_true] at h
    rcases h with ⟨h1,h2⟩ | ⟨h1,h2⟩
    · cases c <;> first | exact ⟨_,_,_,rfl⟩ | cases h1
    · obtain ⟨e,n,cs',e1⟩:=V7 h2
      cases c <;> first | (cases h1; done) | exact ⟨e,n,cs',e1⟩
theorem QN : ∀ {ds : List V} {xs : List Value} {b : List Nat},Jy ds = true -> AC P w St ds xs b -> ∃ u,Ow P w St (KW ds) u b ∧ AC P w St (ds.map (Yg u)) xs []
  | [],_,_,h,_ => by cases h
  | c :: cs,_,_,h,⟨u,us',b1,b2,e1,e2,hc,h1,h2⟩ => by
    simp only [Jy,Bool.or_eq_true,Bool.and_eq_true] at h
    rcases h with ⟨g1,g2⟩ | ⟨g1,g2⟩
    · have hb:=VS g2 h2
      subst hb
      rw [List.append_nil] at e2
      subst e2
      cases c <;> first | (cases g1; done) | skip
      refine ⟨u,h1,?_⟩
      rw [List.map_cons,R9 u g2]
      exact ⟨u,us',[],[],e1,rfl,rfl,ZK h1,h2⟩
    · have hb:=Z3 g1 h1
      subst hb
      rw [List.nil_append] at e2
      subst e2
      obtain ⟨u',h3,h4⟩:=QN g2 h2
      refine ⟨u',?_,?_⟩
      · cases c <;> first | (cases g1; done) | exact h3
      · rw [List.map_cons,VR u' g1]
        exact ⟨u,us',[],[],e1,rfl,hc,h1,h4⟩
theorem S0 : ∀ {ds : List V} {xs : List Value} {b0 b : List Nat} {u : Value},Jy ds = true -> AC P w St (ds.map (Yg u)) xs b0 -> Ow P w St (KW ds) u b -> AC P w St ds xs b
  | [],_,_,_,_,h,_,_ => by cases h
  | c :: cs,_,_,b,u,h,⟨u',us',b1,b2,e1,e2,hc,h1,h2⟩,ht => by
    simp only [Jy,Bool.or_eq_true,Bool.and_eq_true] at h
    rcases h with ⟨g1,g2⟩ | ⟨g1,g2⟩
    · cases c <;> first | (cases g1; done) | skip
      have hu : u' = u:=h1.2.1
      subst hu
      change AC P w St (cs.map (Yg u')) us' b2 at h2
      rw [R9 u' g2] at h2
      have hb:=VS g2 h2
      subst hb
      exact ⟨u',us',b,[],e1,by simp,rfl,ht,h2⟩
    · have ht' : Ow P w St (KW cs) u b:=by cases c <;> first | (cases g1; done) | exact ht
      change Ow P w St (Yg u c) u' b1 at h1
      rw [VR u g1] at h1
      have hb:=Z3 g1 h1
      subst hb
      have h3:=S0 g2 h2 ht'
      have hcc : c.Fq = true:=by cases c <;> first | rfl | cases g1
      exact ⟨u',us',[],b,e1,by simp,hcc,h1,h3⟩
end
def I0 {α : Type} (k : Nat) : List α -> List (Nat × α)
  | [] => []
  | x :: l => (k,x) :: I0 (k + 1) l
def pE {α : Type} (f : α -> List V) (U : Nat -> Value) (p : Nat × α) : List V:=(f p.2).map (Yg (U p.1))
def mE {α : Type} (f : α -> List V) (U : Nat -> Value) : Nat × α ⊕ α -> List V
  | .inl p => pE f U p
  | .inr x => f x
def getM {α : Type} : Nat × α ⊕ α -> α
  | .inl p => p.2
  | .inr x => x
def okJ {α : Type} [BEq α] (l : List α) : List (Nat × α ⊕ α) -> List Nat -> Bool
  | [],_ => true
  | .inl p :: L,seen => (match l[p.1]? with
    | some x => x == p.2
    | none => false) && !seen.contains p.1 && okJ l L (p.1 :: seen)
  | .inr _ :: L,seen => okJ l L seen
section
variable {P : Program} {w : World} {St : Nat -> Nat -> Prop} {α : Type} {f : α -> List V}
theorem S5 (h1 : ∀ x,Jy (f x) = true) : ∀ (l : List α) (k : Nat) {xs : List Value} {bs : List Nat},AC P w St (l.flatMap f) xs bs ->
    ∃ us : List Value,us.length = l.length ∧ AC P w St (l.map fun x => KW (f x)) us bs ∧ ∀ U : Nat -> Value,(∀ i,i < l.length -> U (k + i) = us.getD i undef) -> AC P w St ((I0 k l).flatMap (pE f U)) xs []
  | [],k,_,_,h => ⟨[],rfl,⟨rfl,h.2⟩,fun U _ => ⟨h.1,rfl⟩⟩
  | x :: l,k,xs,bs,h => by
    rw [List.flatMap_cons] at h
    obtain ⟨xs1,xs2,b1,b2,rfl,rfl,r1,r2⟩:=h.app
    obtain ⟨u,h3,h4⟩:=QN (h1 x) r1
    obtain ⟨us,hl,h5,h6⟩:=S5 h1 l (k + 1) r2
    obtain ⟨e,n,cs,et⟩:=V7 (h1 x)
    refine ⟨u :: us,by simp [hl],⟨u,us,b1,b2,rfl,rfl,by show (KW (f x)).Fq = true; rw [et]; rfl,h3,h5⟩,fun U hU => ?_⟩
    have hu : U k = u:=by have:=hU 0 (by simp); simpa using this
    rw [I0,List.flatMap_cons]
    have:=AC.join (b1:=[]) (b2:=[]) (show AC P w St (pE f U (k,x)) xs1 [] by unfold pE; rw [hu]; exact h4) (h6 U (fun i hi => by
      have:=hU (i + 1) (by simp; omega)
      have e : k + 1 + i = k + (i + 1):=by omega
      rw [e,this]; simp))
    exact this
theorem Q3 : ∀ {cs : List V} {us : List Value} {bs : List Nat},AC P w St cs us bs -> bs.Nodup -> ∃ β : Nat -> List Nat,(∀ i c u,cs[i]? = some c -> us[i]? = some u -> Ow P w St c u (β i)) ∧ (∀ i,∀ g ∈ β i,g ∈ bs) ∧ (∀ i,(β i).Nodup) ∧ ∀ i j,i ≠ j -> ∀ g ∈ β i,g ∉ β j
  | [],_,_,h,_ => ⟨fun _ => [],by simp,by simp,fun _ => List.nodup_nil,by simp⟩
  | c :: cs,_,_,⟨u,us',b1,b2,e1,e2,hc,h1,h2⟩,hn => by
    subst e1 e2
    obtain ⟨n1,n2,n3⟩:=List.nodup_append.1 hn
    obtain ⟨β,k1,k2,k3,k4⟩:=Q3 h2 n2
    refine ⟨fun i => match i with | 0 => b1 | i + 1 => β i,?_,?_,?_,?_⟩
    · intro i c' u' hc' hu'
      cases i with
      | zero => simp only [List.getElem?_cons_zero,Option.some.injEq] at hc' hu'; subst hc' hu'; exact h1
      | succ i => exact k1 i c' u' (by simpa using hc') (by simpa using hu')
    · intro i g hg
      cases i with
      | zero => exact List.mem_append_left _ hg
      | succ i => exact List.mem_append_right _ (k2 i g hg)
    · intro i
      cases i with
      | zero => exact n1
      | succ i => exact k3 i
    · intro i j hij g hg hg'
      cases i with
      | zero =>
        cases j with
        | zero => exact hij rfl
        | succ j => exact n3 g hg g (k2 j g hg') rfl
      | succ i =>
        cases j with
        | zero => exact n3 g hg' g (k2 i g hg) rfl
        | succ j => exact k4 i j (by omega) g hg hg'
theorem ZH [BEq α] [LawfulBEq α] (h1 : ∀ x,Jy (f x) = true) {l : List α} {us : List Value} {bs : List Nat} (ht : AC P w St (l.map fun x => KW (f x)) us bs) (hn : bs.Nodup) {U : Nat -> Value} (hU : ∀ i,i < l.length -> U i = us.getD i undef) :
    ∀ (L : List (Nat × α ⊕ α)) {xs : List Value} {b0 : List Nat},okJ l L [] = true -> AC P w St (L.flatMap (mE f U)) xs b0 -> b0.Nodup -> (∀ g ∈ b0,g ∉ bs) -> ∃ b',AC P w St ((L.map getM).flatMap f) xs b' ∧ b'.Nodup ∧ ∀ g ∈ b',g ∈ b0 ∨ g ∈ bs:=by
  obtain ⟨β,k1,k2,k3,k4⟩:=Q3 ht hn
  have hlen:=ht.length
  rw [List.length_map] at hlen
  have key : ∀ (L : List (Nat × α ⊕ α)) (seen : List Nat) {xs : List Value} {b0 : List Nat},okJ l L seen = true -> AC P w St (L.flatMap (mE f U)) xs b0 -> b0.Nodup -> (∀ g ∈ b0,g ∉ bs) ->
      ∃ b',AC P w St ((L.map getM).flatMap f) xs b' ∧ b'.Nodup ∧ (∀ g ∈ b',g ∈ b0 ∨ g ∈ bs) ∧ ∀ i ∈ seen,∀ g ∈ β i,g ∉ b':=by
    intro L
    induction L with
    | nil =>
      intro seen xs b0 _ h hnb hd
      exact ⟨[],⟨h.1,rfl⟩,List.nodup_nil,by simp,by simp⟩
    | cons p L ih =>
      intro seen xs b0 hok h hnb hd
      rw [List.flatMap_cons] at h
      obtain ⟨xs1,xs2,b1,b2,rfl,rfl,r1,r2⟩:=h.app
      obtain ⟨n1,n2,n3⟩:=List.nodup_append.1 hnb
      cases p with
      | inr x =>
        simp only [okJ] at hok
        obtain ⟨b',q1,q2,q3,q4⟩:=ih seen hok r2 n2 (fun g hg => hd g (List.mem_append_right _ hg))
        refine ⟨b1 ++ b',?_,?_,?_,?_⟩
        · rw [List.map_cons,List.flatMap_cons]; exact AC.join r1 q1
        · refine List.nodup_append.2 ⟨n1,q2,fun a ha b hb e => ?_⟩
          subst e
          rcases q3 a hb with h | h
          · exact n3 a ha a h rfl
          · exact hd a (List.mem_append_left _ ha) h
        · intro g hg
          rcases List.mem_append.1 hg with hg | hg
          · exact .inl (List.mem_append_left _ hg)
          · exact (q3 g hg).imp (List.mem_append_right _) id
        · intro i hi g hg hm
          rcases List.mem_append.1 hm with hm | hm
          · exact hd g (List.mem_append_left _ hm) (k2 i g hg)
          · exact q4 i hi g hg hm
      | inl p =>
        simp only [okJ,Bool.and_eq_true,Bool.not_eq_true'] at hok
        obtain ⟨⟨g1,g2⟩,g3⟩:=hok
        obtain ⟨b',q1,q2,q3,q4⟩:=ih (p.1 :: seen) g3 r2 n2 (fun g hg => hd g (List.mem_append_right _ hg))
        have hp : l[p.1]? = some p.2:=by
          split at g1
          · rename_i x hx; rw [hx]; simpa using g1
          · cases g1
        have hpl : p.1 < l.length:=by
          rcases Nat.lt_or_ge p.1 l.length with h | h
          · exact h
          · rw [List.getElem?_eq_none h] at hp; cases hp
        have hus : us[p.1]? = some (U p.1):=by
          rw [hU p.1 hpl]
          have : p.1 < us.length:=by omega
          simp [this]
        have htok:=k1 p.1 _ _ (by rw [List.getElem?_map,hp]; rfl) hus
        have r1' : AC P w St (f p.2) xs1 (β p.1):=S0 (h1 p.2) (show AC P w St ((f p.2).map (Yg (U p.1))) xs1 b1 from r1) htok
        refine ⟨β p.1 ++ b',?_,?_,?_,?_⟩
        · rw [List.map_cons,List.flatMap_cons]; exact AC.join r1' q1
        · refine List.nodup_append.2 ⟨k3 p.1,q2,fun a ha b hb e => ?_⟩
          subst e
          exact q4 p.1 (by simp) a ha hb
        · intro g hg
          rcases List.mem_append.1 hg with hg | hg
          · exact .inr (k2 p.1 g hg)
          · exact (q3 g hg).imp (List.mem_append_right _) id
        · intro i hi g hg hm
          rcases List.mem_append.1 hm with hm | hm
          · have hne : i ≠ p.1:=fun e => by
              subst e
              have : seen.contains p.1 = true:=by simpa using hi
              rw [this] at g2; cases g2
            exact k4 i p.1 hne g hg hm
          · exact q4 i (by simp [hi]) g hg hm
  intro L xs b0 hok h hnb hd
  obtain ⟨b',q1,q2,q3,_⟩:=key L [] hok h hnb hd
  exact ⟨b',q1,q2,q3⟩
end
theorem zpE {α : Type} {f : α -> List V} {n : Nat} (h : ∀ x,(f x).length = n) {U : Nat -> Value} (p : Nat × α) : (pE f U p).length = n:=by unfold pE; rw [List.length_map,h]
theorem erP {α : Type} {f g : α -> List V} (h : ∀ x,erL (f x) = g x) (hg : ∀ x,erL (g x) = g x) (l : List α) {u : Value} : er (.pin u l.length (erL (l.flatMap f))) = .dat l.length (l.flatMap g):=by rw [er,LB h,LB hg]
theorem ZJ {α : Type} {f : α -> List V} {U : Nat -> Value} {e : TypeId} {x : List (Nat × α)} : V.own e x.length (x.flatMap (pE f U)) = .own e (x.map (Sum.inl : Nat × α -> Nat × α ⊕ α)).length ((x.map (Sum.inl : Nat × α -> Nat × α ⊕ α)).flatMap (mE f U)):=by
  rw [List.length_map,List.flatMap_map]; rfl
section
variable {P : Program} {α : Type} {f : α -> List V}
theorem NH : ∀ (k : Nat) (l : List α),(I0 k l).length = l.length
  | _,[] => rfl
  | k,x :: l => by rw [I0,List.length_cons,List.length_cons,NH (k + 1) l]
def T0 (P : Program) (f : α -> List V) (c : V) (l : List α) (k : Nat) (c' : (Nat -> Value) -> V) : Prop :=
  ∀ w St t v bs,A3 P w St t c v bs -> bs.Nodup -> ∃ us b1 b2,us.length = l.length ∧ AC P w St (l.map fun x => KW (f x)) us b2 ∧ (b1 ++ b2).Nodup ∧ (∀ g ∈ b1 ++ b2,g ∈ bs) ∧ ∀ U : Nat -> Value,(∀ i,i < l.length -> U (k + i) = us.getD i undef) -> A3 P w St t (c' U) v b1
theorem QT (h1 : ∀ x,Jy (f x) = true) {e : TypeId} {l : List α} {k : Nat} {w : World} {St : Nat -> Nat -> Prop} {v : Value} {bs : List Nat} (h : Ow P w St (.own e l.length (l.flatMap f)) v bs) (hn : bs.Nodup) :
    ∃ us b1 b2,us.length = l.length ∧ AC P w St (l.map fun x => KW (f x)) us b2 ∧ bs = b1 ++ b2 ∧ ∀ U : Nat -> Value,(∀ i,i < l.length -> U (k + i) = us.getD i undef) -> Ow P w St (.own e (I0 k l).length ((I0 k l).flatMap (pE f U))) v b1:=by
  obtain ⟨hl,xs,bs',hx,hr,hb,hst,h0⟩:=h
  obtain ⟨us,hul,ht,hp⟩:=S5 h1 l k hr
  refine ⟨us,v.ownBlock.toList,bs',hul,ht,hb,fun U hU => ?_⟩
  rw [NH]
  refine ⟨hl,xs,[],hx,hp U hU,by simp,hst,fun hz => ?_⟩
  have : l = []:=List.eq_nil_of_length_eq_zero hz
  subst this; rfl
theorem Q8 (h1 : ∀ x,Jy (f x) = true) {e : TypeId} {l : List α} {k : Nat} : T0 P f (.own e l.length (l.flatMap f)) l k (fun U => .own e (I0 k l).length ((I0 k l).flatMap (pE f U))):=by
  intro w St t v bs h hn
  obtain ⟨us,b1,b2,q1,q2,q3,q4⟩:=QT (k:=k) h1 (show Ow P w St _ v bs from h) hn
  exact ⟨us,b1,b2,q1,q2,by rw [<- q3]; exact hn,fun g hg => by rw [q3]; exact hg,fun U hU => q4 U hU⟩
def ay (P : Program) [BEq α] (f : α -> List V) (U : Nat -> Value) (c : V) (L : List (Nat × α ⊕ α)) (c' : V) : Prop :=
  ∀ w St t v b1 (l : List α) us bs,A3 P w St t c v b1 -> AC P w St (l.map fun x => KW (f x)) us bs -> bs.Nodup -> (∀ i,i < l.length -> U i = us.getD i undef) -> okJ l L [] = true -> b1.Nodup -> (∀ g ∈ b1,g ∉ bs) -> ∃ b',A3 P w St t c' v b' ∧ b'.Nodup ∧ ∀ g ∈ b',g ∈ b1 ∨ g ∈ bs
theorem R1 [BEq α] [LawfulBEq α] (h1 : ∀ x,Jy (f x) = true) {e : TypeId} {L : List (Nat × α ⊕ α)} {U : Nat -> Value} {w : World} {St : Nat -> Nat -> Prop} {v : Value} {b1 : List Nat} {l : List α} {us : List Value} {bs : List Nat} (h : Ow P w St (.own e L.length (L.flatMap (mE f U))) v b1) (ht : AC P w St (l.map fun x => KW (f x)) us bs) (hn : bs.Nodup)
    (hU : ∀ i,i < l.length -> U i = us.getD i undef) (hok : okJ l L [] = true) (hb1 : b1.Nodup) (hd : ∀ g ∈ b1,g ∉ bs) : ∃ b',Ow P w St (.own e (L.map getM).length ((L.map getM).flatMap f)) v b' ∧ b'.Nodup ∧ ∀ g ∈ b',g ∈ b1 ∨ g ∈ bs:=by
  obtain ⟨hl,xs,bs',hx,hr,rfl,hst,h0⟩:=h
  obtain ⟨n1,n2,n3⟩:=List.nodup_append.1 hb1
  obtain ⟨b',q1,q2,q3⟩:=ZH h1 ht hn hU L hok hr n2 (fun g hg => hd g (List.mem_append_right _ hg))
  refine ⟨v.ownBlock.toList ++ b',⟨by rw [List.length_map]; exact hl,xs,b',by rw [List.length_map]; exact hx,q1,rfl,by rw [List.length_map]; exact hst,fun hz => ?_⟩,?_,?_⟩
  · rw [List.length_map] at hz
    have : L = []:=List.eq_nil_of_length_eq_zero hz
    subst this; rfl
  · refine List.nodup_append.2 ⟨n1,q2,fun a ha b hb e => ?_⟩
    subst e
    rcases q3 a hb with h | h
    · exact n3 a ha a h rfl
    · exact hd a (List.mem_append_left _ ha) h
  · intro g hg
    rcases List.mem_append.1 hg with hg | hg
    · exact .inl (List.mem_append_left _ hg)
    · exact (q3 g hg).imp (List.mem_append_right _) id
theorem WJ [BEq α] [LawfulBEq α] (h1 : ∀ x,Jy (f x) = true) {e : TypeId} {L : List (Nat × α ⊕ α)} {U : Nat -> Value} : ay P f U (.own e L.length (L.flatMap (mE f U))) L (.own e (L.map getM).length ((L.map getM).flatMap f)):=by
  intro w St t v b1 l us bs h ht hn hU hok hb1 hd
  obtain ⟨b',q1,q2,q3⟩:=R1 h1 (show Ow P w St _ v b1 from h) ht hn hU hok hb1 hd
  exact ⟨b',q1,q2,q3⟩
end
section
variable {P : Program} {nt : Nat} {base : Bs} {bx : List Nat} {St St0 : Nat -> Nat -> Prop} {B : Nat -> List Nat} {hand : List Nat} {σ : PS} {a : Act} {w w0 : World}
theorem LH (h : HSim P nt bx base St B [] σ a w) {s q : Nat} (hsq : s ≠ q) (hq : EM (σ q) = none) {c cq : V} {b1 b2 : List Nat} (hc : A3 P w St (tm a) c (tm a s) b1) (hcq : A3 P w St (tm a) cq (tm a q) b2) (hn : (b1 ++ b2).Nodup) (hsub : ∀ g ∈ b1 ++ b2,g ∈ B s ∨ g ∈ B q)
    (hb : (EM c).isSome = (EM (σ s)).isSome) (hrf : EB c = none) (hbq : EM cq = none) (hrq : EB cq = none) : HSim P nt bx base St (upd (upd B s b1) q b2) [] (upd (upd σ s c) q cq) a w:=by
  have hsome : ∀ cs,EM c = some cs -> ∃ ds,EM (σ s) = some ds:=fun cs e => by
    rw [e] at hb
    cases hx : EM (σ s) with
    | none => rw [hx] at hb; cases hb
    | some ds => exact ⟨ds,rfl⟩
  have hsome' : ∀ cs,EM (σ s) = some cs -> ∃ ds,EM c = some ds:=fun cs e => by
    rw [e] at hb
    cases hx : EM c with
    | none => rw [hx] at hb; cases hb
    | some ds => exact ⟨ds,rfl⟩
  obtain ⟨n1,n2,n3⟩:=List.nodup_append.1 hn
  have hB : ∀ r,r ≠ s -> r ≠ q -> upd (upd B s b1) q b2 r = B r:=fun r h1 h2 => by rw [upd_ne _ _ h2,upd_ne _ _ h1]
  have hBs : upd (upd B s b1) q b2 s = b1:=by rw [upd_ne _ _ hsq,upd_same]
  have hBq : upd (upd B s b1) q b2 q = b2:=upd_same _ _ _
  have hS : ∀ r,r ≠ s -> r ≠ q -> upd (upd σ s c) q cq r = σ r:=fun r h1 h2 => by rw [upd_ne _ _ h2,upd_ne _ _ h1]
  have hSs : upd (upd σ s c) q cq s = c:=by rw [upd_ne _ _ hsq,upd_same]
  have hSq : upd (upd σ s c) q cq q = cq:=upd_same _ _ _
  have hin : ∀ r,(∀ g ∈ upd (upd B s b1) q b2 r,g ∈ B r ∨ ((r = s ∨ r = q) ∧ (g ∈ B s ∨ g ∈ B q))):=fun r g hg => by
    by_cases e1 : r = s
    · subst e1; rw [hBs] at hg; exact .inr ⟨.inl rfl,hsub g (List.mem_append_left _ hg)⟩
    · by_cases e2 : r = q
      · subst e2; rw [hBq] at hg; exact .inr ⟨.inr rfl,hsub g (List.mem_append_right _ hg)⟩
      · rw [hB r e1 e2] at hg; exact .inl hg
  exact
  { h with
    slot:=fun r => by
      by_cases e1 : r = s
      · subst e1; rw [hSs,hBs]; exact hc
      · by_cases e2 : r = q
        · subst e2; rw [hSq,hBq]; exact hcq
        · rw [hS r e1 e2,hB r e1 e2]; exact h.slot r
    boxes:=fun r cs e => by
      by_cases e1 : r = s
      · subst e1; rw [hSs] at e; obtain ⟨ds,hd⟩:=hsome cs e; exact h.boxes r ds hd
      · by_cases e2 : r = q
        · subst e2; rw [hSq,hbq] at e; cases e
        · rw [hS r e1 e2] at e; exact h.boxes r cs e
    crefs:=fun r b e => by
      have hr : EB (σ r) = some b:=by
        by_cases e1 : r = s
        · subst e1; rw [hSs,hrf] at e; cases e
        · by_cases e2 : r = q
          · subst e2; rw [hSq,hrq] at e; cases e
          · rw [hS r e1 e2] at e; exact e
      obtain ⟨cs,hcs⟩:=h.crefs r b hr
      by_cases e1 : b = s
      · subst e1; rw [hSs]; exact hsome' cs hcs
      · by_cases e2 : b = q
        · subst e2; rw [hq] at hcs; cases hcs
        · rw [hS b e1 e2]; exact ⟨cs,hcs⟩
    nodup:=fun r => by
      by_cases e1 : r = s
      · subst e1; rw [hBs]; exact n1
      · by_cases e2 : r = q
        · subst e2; rw [hBq]; exact n2
        · rw [hB r e1 e2]; exact h.nodup r
    apart:=fun r t hrt g hg hg' => by
      by_cases e1 : (r = s ∨ r = q)
      · by_cases e2 : (t = s ∨ t = q)
        · rcases e1 with rfl | rfl <;> rcases e2 with rfl | rfl
          · exact hrt rfl
          · rw [hBs] at hg; rw [hBq] at hg'; exact n3 g hg g hg' rfl
          · rw [hBq] at hg; rw [hBs] at hg'; exact n3 g hg' g hg rfl
          · exact hrt rfl
        · have ht1 : t ≠ s:=fun e => e2 (.inl e)
          have ht2 : t ≠ q:=fun e => e2 (.inr e)
          rw [hB t ht1 ht2] at hg'
          rcases hin r g hg with hh | ⟨_,hh⟩
          · exact h.apart r t hrt g hh hg'
          · rcases hh with hh | hh
            · exact h.apart s t (Ne.symm ht1) g hh hg'
            · exact h.apart q t (Ne.symm ht2) g hh hg'
      · have hr1 : r ≠ s:=fun e => e1 (.inl e)
        have hr2 : r ≠ q:=fun e => e1 (.inr e)
        rw [hB r hr1 hr2] at hg
        rcases hin t g hg' with hh | ⟨_,hh⟩
        · exact h.apart r t hrt g hg hh
        · rcases hh with hh | hh
          · exact h.apart r s hr1 g hg hh
          · exact h.apart r q hr2 g hg hh
    hapart:=fun r g hg => by simp
    range:=fun r g hg => by
      rcases hin r g hg with hh | ⟨_,hh | hh⟩
      · exact h.range r g hh
      · exact h.range s g hh
      · exact h.range q g hh }
variable {Q : Exit -> PS -> Prop} {α : Type} {f : α -> List V}
theorem U7 {x : LC} {s1 s2 g1 g2 : Nat} {l1 l2 : List α} {c1 c2 : V} {c1' c2' : (Nat -> Value) -> V} (hs1 : σ s1 = c1) (hs2 : σ s2 = c2) (hq1 : σ g1 = .undef) (hq2 : σ g2 = .undef) (hne : s1 ≠ s2 ∧ s1 ≠ g1 ∧ s1 ≠ g2 ∧ s2 ≠ g1 ∧ s2 ≠ g2 ∧ g1 ≠ g2) (S1 : T0 P f c1 l1 0 c1') (S2 : T0 P f c2 l2 l1.length c2')
    (hb1 : ∀ U,(EM (c1' U)).isSome = (EM c1).isSome) (hrf1 : ∀ U,EB (c1' U) = none) (hb2 : ∀ U,(EM (c2' U)).isSome = (EM c2).isSome) (hrf2 : ∀ U,EB (c2' U) = none)
    (h : ∀ (U : Nat -> Value) (us1 us2 : List Value),us1.length = l1.length -> us2.length = l2.length -> (∀ i,i < (l1 ++ l2).length -> U i = (us1 ++ us2).getD i undef) -> LS P nt bx x (upd (upd (upd (upd σ s1 (c1' U)) g1 (.gh us1 (l1.map fun x => KW (f x)))) s2 (c2' U)) g2 (.gh us2 (l2.map fun x => KW (f x)))) Q) : LS P nt bx x σ Q:=by
  obtain ⟨n1,n2,n3,n4,n5,n6⟩:=hne
  intro cc hc hok hL base St0 w0 a w hr
  obtain ⟨St,B,hS,r1,r2,r3⟩:=hr
  have h1:=hS.slot s1
  rw [hs1] at h1
  have h2:=hS.slot s2
  rw [hs2] at h2
  obtain ⟨us1,b1,b2,q1,q2,q3,q4,q5⟩:=S1 w St (tm a) (tm a s1) (B s1) h1 (hS.nodup s1)
  obtain ⟨us2,b3,b4,p1,p2,p3,p4,p5⟩:=S2 w St (tm a) (tm a s2) (B s2) h2 (hS.nodup s2)
  have hU1 : ∀ i,i < l1.length -> (fun i => (us1 ++ us2).getD i undef) (0 + i) = us1.getD i undef:=fun i hi => by
    have : i < us1.length:=by omega
    simp [List.getElem?_append_left this]
  have hU2 : ∀ i,i < l2.length -> (fun i => (us1 ++ us2).getD i undef) (l1.length + i) = us2.getD i undef:=fun i hi => by
    simp only [List.getD_eq_getElem?_getD]
    rw [List.getElem?_append_right (by omega),q1,Nat.add_sub_cancel_left]
  have m1:=LH hS n2 (by rw [hq1]; rfl) (q5 (fun i => (us1 ++ us2).getD i undef) hU1) (show A3 P w St (tm a) (.gh us1 (l1.map fun x => KW (f x))) _ b2 from q2) q3 (fun g hg => .inl (q4 g hg)) (by rw [hs1]; exact hb1 _) (hrf1 _) rfl rfl
  have e1 : upd (upd σ s1 (c1' fun i => (us1 ++ us2).getD i undef)) g1 (.gh us1 (l1.map fun x => KW (f x))) s2 = c2:=by rw [upd_ne _ _ n4,upd_ne _ _ (Ne.symm n1),hs2]
  have e2 : upd (upd σ s1 (c1' fun i => (us1 ++ us2).getD i undef)) g1 (.gh us1 (l1.map fun x => KW (f x))) g2 = .undef:=by rw [upd_ne _ _ (Ne.symm n6),upd_ne _ _ (Ne.symm n3),hq2]
  have e3 : upd (upd B s1 b1) g1 b2 s2 = B s2:=by rw [upd_ne _ _ n4,upd_ne _ _ (Ne.symm n1)]
  have m2:=LH m1 n5 (by rw [e2]; rfl) (p5 (fun i => (us1 ++ us2).getD i undef) hU2) (show A3 P w St (tm a) (.gh us2 (l2.map fun x => KW (f x))) _ b4 from p2) p3 (fun g hg => .inl (by rw [e3]; exact p4 g hg)) (by rw [e1]; exact hb2 _) (hrf2 _) rfl rfl
  exact h (fun i => (us1 ++ us2).getD i undef) us1 us2 q1 p1 (fun i _ => rfl) cc hc hok hL base St0 w0 a w ⟨St,_,m2,r1,r2,r3⟩
theorem WU {x : LC} {g1 g2 : Nat} {us1 us2 : List Value} {cs1 cs2 : List V} (h1 : σ g1 = .gh us1 cs1) (h2 : σ g2 = .gh us2 cs2) (hne : g1 ≠ g2) (h : LS P nt bx x (upd (upd σ g1 (.gh (us1 ++ us2) (cs1 ++ cs2))) g2 .undef) Q) : LS P nt bx x σ Q:=by
  intro cc hc hok hL base St0 w0 a w hr
  obtain ⟨St,B,hS,r1,r2,r3⟩:=hr
  have k1:=hS.slot g1
  rw [h1] at k1
  have k2:=hS.slot g2
  rw [h2] at k2
  refine h cc hc hok hL base St0 w0 a w ⟨St,_,LH hS hne (by rw [h2]; rfl) (show A3 P w St (tm a) (.gh (us1 ++ us2) (cs1 ++ cs2)) _ (B g1 ++ B g2) from AC.join k1 k2) (show A3 P w St (tm a) .undef _ [] from rfl) ?_ (fun g hg => ?_) (by rw [h1]; rfl) rfl rfl rfl,r1,r2,r3⟩
  · rw [List.append_nil]
    exact List.nodup_append.2 ⟨hS.nodup g1,hS.nodup g2,fun a ha b hb e => by subst e; exact hS.apart g1 g2 hne a ha hb⟩
  · rw [List.append_nil] at hg
    exact List.mem_append.1 hg
theorem WS [BEq α] {x : LC} {s q : Nat} {l : List α} {us : List Value} {U : Nat -> Value} {L : List (Nat × α ⊕ α)} {c c' : V} {cs : List V} (hs : σ s = c) (hq : σ q = .gh us cs) (hcs : cs = l.map fun x => KW (f x)) (hsq : s ≠ q) (J : ay P f U c L c') (hU : ∀ i,i < l.length -> U i = us.getD i undef) (hok : okJ l L [] = true)
    (hb : (EM c').isSome = (EM c).isSome) (hrf : EB c' = none) (h : LS P nt bx x (upd (upd σ s c') q .undef) Q) : LS P nt bx x σ Q:=by
  intro cc hc hok' hL base St0 w0 a w hr
  obtain ⟨St,B,hS,r1,r2,r3⟩:=hr
  have k1:=hS.slot s
  rw [hs] at k1
  have k2:=hS.slot q
  rw [hq,hcs] at k2
  obtain ⟨b',q1,q2,q3⟩:=J w St (tm a) (tm a s) (B s) l us (B q) k1 k2 (hS.nodup q) hU hok (hS.nodup s) (fun g hg => hS.apart s q hsq g hg)
  exact h cc hc hok' hL base St0 w0 a w ⟨St,_,LH hS hsq (by rw [hq]; rfl) q1 (show A3 P w St (tm a) .undef _ [] from rfl) (by rw [List.append_nil]; exact q2) (fun g hg => by rw [List.append_nil] at hg; exact q3 g hg) (by rw [hs]; exact hb) hrf rfl rfl,r1,r2,r3⟩
end
end Go.Proofs.YtkclaipnejgloaaGreatDoor
namespace Go.Proofs.YtkclaipnejgloaaGreatDoor
open Go.RowKit
set_option linter.unusedVariables false
def Gh (P : Program) (nt : Nat) (bx : List Nat) (σ : PS) (K : PS -> Prop) : Prop := ∀ base St0 w0 a w,Rel P nt bx base St0 w0 σ a w -> ∃ σ',K σ' ∧ Rel P nt bx base St0 w0 σ' a w
section
variable {P : Program} {nt : Nat} {bx : List Nat} {σ : PS} {K : PS -> Prop} {Q : Exit -> PS -> Prop} {x : LC}
variable {α : Type} {f : α -> List V}
end
end Go.Proofs.YtkclaipnejgloaaGreatDoor
namespace Go.Proofs.YtkclaipnejgloaaGreatDoor
open Go.RowKit
set_option linter.unusedVariables false
mutual
def ew : V -> V
  | .dat n cs => .arg n (Ty cs)
  | .agg cs => .agg (Ty cs)
  | .int k n => .int k n
  | .bool b => .bool b
  | .str s => .str s
  | .fn f => .fn f
  | _ => .undef
def Ty : List V -> List V
  | [] => []
  | c :: cs => ew c :: Ty cs
end
mutual
def Rq : V -> Bool
  | .dat _ cs => JK cs
  | .int _ _ => true
  | .bool _ => true
  | .str _ => true
  | .fn _ => true
  | _ => false
def JK : List V -> Bool
  | [] => true
  | c :: cs => Rq c && JK cs
end
def Sn : V -> Bool
  | .agg cs => JK cs
  | c => Rq c
section
variable {P : Program} {w : World} {St : Nat -> Nat -> Prop} {N : Nat -> Prop}
theorem T3 {cs : List V} : Ty cs ≠ [] -> cs ≠ []:=fun h e => h (by subst e; rfl)
mutual
theorem Rd.Md (hst : ∀ b o,St b o -> N b) : ∀ (c : V) {v : Value},Rq c = true -> Rd w St c v -> Rd w (fun b o => St b o ∨ N b) (ew c) v
  | .int _ _,_,_,h => h
  | .bool _,_,_,h => h
  | .str _,_,_,h => h
  | .fn _,_,_,h => h
  | .dat _ cs,_,ha,⟨hn,A,c,e,hc,h,h0⟩ => ⟨hn,A,c,e,hc,fun hp => let ⟨b,off,ea,hr⟩:=h hp; ⟨b,off,ea,fun hne o => .inr (Cg.blk hst b off cs (T3 hne) hr),Cg.Md hst b off cs ha hr⟩,fun hz => by rw [h0 hz]; rfl⟩
  | .own _ _ _,_,ha,_ => by cases ha
  | .pin _ _ _,_,ha,_ => by cases ha
  | .arg _ _,_,ha,_ => by cases ha
  | .agg _,_,ha,_ => by cases ha
  | .tup _,_,ha,_ => by cases ha
  | .box _,_,ha,_ => by cases ha
  | .uni _ _ _,_,ha,_ => by cases ha
  | .same _,_,ha,_ => by cases ha
  | .cref _ _,_,ha,_ => by cases ha
  | .adr _ _,_,ha,_ => by cases ha
  | .gh _ _,_,ha,_ => by cases ha
  | .tok _,_,ha,_ => by cases ha
  | .undef,_,ha,_ => by cases ha
theorem Cg.Md (hst : ∀ b o,St b o -> N b) (b : Nat) : ∀ (off : Nat) (cs : List V),JK cs = true -> Cg w St b off cs -> Cg w (fun b o => St b o ∨ N b) b off (Ty cs)
  | _,[],_,_ => trivial
  | off,c :: cs,ha,⟨⟨h1,u,hu,hr⟩,h2⟩ => by
    rw [JK,Bool.and_eq_true] at ha
    exact ⟨⟨.inl h1,u,hu,Rd.Md hst c ha.1 hr⟩,Cg.Md hst b (off + 1) cs ha.2 h2⟩
theorem Cg.blk (hst : ∀ b o,St b o -> N b) (b : Nat) : ∀ (off : Nat) (cs : List V),cs ≠ [] -> Cg w St b off cs -> N b
  | _,[],h,_ => absurd rfl h
  | off,_ :: _,_,⟨⟨h1,_⟩,_⟩ => hst b off h1
end
theorem RdL.Md (hst : ∀ b o,St b o -> N b) : ∀ (cs : List V) {us : List Value},JK cs = true -> RdL w St cs us -> RdL w (fun b o => St b o ∨ N b) (Ty cs) us
  | [],_,_,h => h
  | c :: cs,_,ha,⟨u,us',e,h1,h2⟩ => by
    rw [JK,Bool.and_eq_true] at ha
    exact ⟨u,us',e,Rd.Md hst c ha.1 h1,RdL.Md hst cs ha.2 h2⟩
theorem RdA.Md (hst : ∀ b o,St b o -> N b) {c : V} {v : Value} (ha : Sn c = true) (h : RdA w St c v) : RdA w (fun b o => St b o ∨ N b) (ew c) v:=by
  cases c <;> first | exact Rd.Md hst _ ha h | (cases ha; done) | skip
  obtain ⟨us,e,h⟩:=h
  exact ⟨us,e,RdL.Md hst _ ha h⟩
theorem O2.Md (hst : ∀ b o,St b o -> N b) : ∀ {args : List V} {vs : List Value},args.all Sn = true -> O2 w St args vs -> O2 w (fun b o => St b o ∨ N b) (args.map ew) vs
  | [],_,_,h => h
  | c :: args,_,ha,⟨u,us',e,h1,h2⟩ => by
    simp only [List.all_cons,Bool.and_eq_true] at ha
    exact ⟨u,us',e,RdA.Md hst ha.1 h1,O2.Md hst ha.2 h2⟩
end
section
variable {P : Program} {w w' : World} {St St' : Nat -> Nat -> Prop}
theorem IA.kept : ∀ (cs : List V) {us : List Value} {bs : List Nat},JN cs = true -> IA P w St cs us bs -> (∀ g ∈ bs,w'.heap[g]? = w.heap[g]? ∧ ∀ o,St' g o ↔ St g o) -> IA P w' St' cs us bs
  | [],_,_,_,h,_ => h
  | c :: cs,_,_,hd,⟨u,us',b1,b2,e1,e2,h1,h2⟩,hb => by
    have hd' : deep c = true ∧ JN cs = true:=by simpa [JN] using hd
    exact ⟨u,us',b1,b2,e1,e2,Ow.kept c hd'.1 h1 (fun g hg => hb g (by rw [e2]; exact List.mem_append_left _ hg)),IA.kept cs hd'.2 h2 (fun g hg => hb g (by rw [e2]; exact List.mem_append_right _ hg))⟩
end
section
variable {P : Program} {tb : Tb}
theorem O2.mono {w w' : World} {St St' : Nat -> Nat -> Prop} (hs : ∀ b o,St b o -> St' b o) (he : Ext St w w') : ∀ {args : List V} {vs : List Value},O2 w St args vs -> O2 w' St' args vs
  | [],_,h => h
  | c :: args,_,⟨u,us',e,h1,h2⟩ => ⟨u,us',e,h1.mono hs he,O2.mono hs he h2⟩
end
theorem sl {α : Type} {n : Nat} {l : List α} {i : Int} {x : α} (h : n = l.length) : n = (Ky l i x).length:=by unfold Ky; rw [List.length_set]; exact h
section
variable {P : Program} {tb : Tb} {cns : List Nat} {L : PL} {K : PS -> Prop} {s t : Nat} {x y : Operand} {nt : Nat} {bx : List Nat}
section
variable {α : Type} {f : α -> List V} {l : List α} {e : TypeId}
variable {β : Type} {f2 : β -> List V} {l2 : List β} {e2 : TypeId} {n : Nat} {u1 : Value} {y0 : α} {i : Int} {es : Nat}
end
end
theorem acc {c : V} {cs : List V} (h : Md c = true) (k : MU cs = true) : MU (c :: cs) = true:=by rw [MU,h,k]; rfl
end Go.Proofs.YtkclaipnejgloaaGreatDoor
namespace Go.Proofs.YtkclaipnejgloaaGreatDoor
open Go.RowKit
set_option linter.unusedVariables false
section
variable {P : Program} {w : World} {St St' : Nat -> Nat -> Prop}
end
section
variable {P : Program} {w : World} {St St' : Nat -> Nat -> Prop}
end
section
variable {P : Program} {nt : Nat} {bx : List Nat} {σ : PS} {K : PS -> Prop}
end
section
variable {P : Program} {nt : Nat} {bx : List Nat} {K : PS -> Prop} {L : PL} {α : Type} {f g : α -> List V} {l : List α} {e : TypeId}
end
end Go.Proofs.YtkclaipnejgloaaGreatDoor
