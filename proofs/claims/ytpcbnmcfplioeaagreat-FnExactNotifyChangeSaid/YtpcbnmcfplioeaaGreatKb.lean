/-
  A machine on data, part 2: code, the rules of the printed walks, loops. Over no program; no conditions.
-/
import Derived.Test.YtpcbnmcfplioeaaGreatKp
namespace Go.Proofs.YtpcbnmcfplioeaaGreat
open Go.RowKit
set_option linter.unusedVariables false
theorem p2 {α β : Type} {a a' : α} {b b' : β} (h : (a,b) = (a',b')) : a = a' ∧ b = b' := Prod.mk.inj h
theorem p3 {α β γ : Type} {a a' : α} {b b' : β} {c c' : γ} (h : (a,b,c) = (a',b',c')) : a = a' ∧ b = b' ∧ c = c' := ⟨(p2 h).1,p2 (p2 h).2⟩
theorem p4 {α β γ δ : Type} {a a' : α} {b b' : β} {c c' : γ} {d d' : δ} (h : (a,b,c,d) = (a',b',c',d')) : a = a' ∧ b = b' ∧ c = c' ∧ d = d' := ⟨(p2 h).1,p3 (p2 h).2⟩
theorem p5 {α β γ δ ε : Type} {a a' : α} {b b' : β} {c c' : γ} {d d' : δ} {e e' : ε} (h : (a,b,c,d,e) = (a',b',c',d',e')) : a = a' ∧ b = b' ∧ c = c' ∧ d = d' ∧ e = e' := ⟨(p2 h).1,p4 (p2 h).2⟩
section
variable {P : Program} {tb : Tb} {cns : List Nat} {σ : PS} {K : PS -> Prop} {d s t : Nat} {x y z : Operand}
theorem oGR {op : Op} {q : Nat} {e b : Bool} (g : e = b) (h : (gOp cns d op,σ q) = (true,.bool e)) (k : evO P tb cns ⟨some d,op,t,none⟩ σ K) : evO P tb cns ⟨some d,op,t,some (some q,b)⟩ σ K := by
 subst g; obtain ⟨h1,h2⟩ := p2 h; exact mm h1 h2 k
theorem ed {o : LO} {os : List LO} {R W : List Nat} {fps : List (List Nat × List Nat)} (h : (Y8 R W o.op σ,adB cns R o σ) = (true,true)) (k : evO P tb cns o σ (fun σ' => evD P tb cns fps os σ' K)) : evD P tb cns ((R,W) :: fps) (o :: os) σ K := evd (p2 h).1 (p2 h).2 k
end
def vA (σ : PS) : List (Nat × V) -> List V
  | [] => []
  | (s,_) :: L => σ s :: vA σ L
def vB : List (Nat × V) -> List V
  | [] => []
  | (_,c) :: L => c :: vB L
theorem okr {σ : PS} : ∀ {L : List (Nat × V)},vA σ L = vB L -> okK σ L
  | [],_ => trivial
  | (s,c) :: L,h => by
    injection h with h1 h2
    exact ⟨h1 ▸ kr,okr h2⟩
section
variable {P : Program} {nt : Nat} {bx : List Nat} {σ : PS} {Q : Exit -> PS -> Prop} {tb : Tb} {cns : List Nat}
theorem kp {l : LC} (L : List (Nat × V)) (h1 : vA σ L = vB L) (h2 : okR L = true) (h : LS P nt bx l (ofL L) Q) : LS P nt bx l σ Q := Qi L (okr h1) h2 h
end
end Go.Proofs.YtpcbnmcfplioeaaGreat
namespace Go.Proofs.YtpcbnmcfplioeaaGreat
open Go.RowKit
set_option linter.unusedVariables false
abbrev PL := List (Nat × V)
def ifB {α : Type} (b : Bool) (x : Option α) : Option α := match b with
  | true => x
  | false => none
theorem BL {α : Type} {b : Bool} {x : Option α} {r : α} (h : ifB b x = some r) : b = true ∧ x = some r := by
  cases b with
  | true => exact ⟨rfl,h⟩
  | false => cases h
def mp : V -> Option V
  | .int k n => some (.int k n)
  | .bool b => some (.bool b)
  | .str s => some (.str s)
  | .own e n cs => some (.own e n cs)
  | .dat n cs => some (.dat n cs)
  | .arg n cs => some (.arg n cs)
  | .pin u n cs => some (.pin u n cs)
  | .fn f => some (.fn f)
  | .tok u => some (.tok u)
  | _ => none
def bu : List V -> Option (List V)
  | [] => some []
  | c :: cs => Ad (mp c) fun a => Ad (bu cs) fun as => some (a :: as)
def mq : V -> Option V
  | .agg cs => Ad (bu cs) fun as => some (.agg as)
  | c => mp c
def gB : List V -> Option (List V)
  | [] => some []
  | c :: cs => Ad (mq c) fun a => Ad (gB cs) fun as => some (a :: as)
def frc : V -> Option V
  | .tup cs => Ad (gB cs) fun as => some (.tup as)
  | .box cs => Ad (bu cs) fun as => some (.box as)
  | .cref s o => some (.cref s o)
  | .adr cs o => some (.adr cs o)
  | .same s => some (.same s)
  | .uni e n cs => some (.uni e n cs)
  | c => mq c
theorem Xs {c d : V} (h : mp c = some d) : d = c := by cases c <;> first | (cases h; rfl) | cases h
theorem RL : ∀ {cs ds : List V},bu cs = some ds -> ds = cs
  | [],_,h => by cases h; rfl
  | c :: cs,_,h => by
    rw [bu] at h
    obtain ⟨a,h1,h⟩ := Aa h
    obtain ⟨as,h2,h⟩ := Aa h
    cases h; rw [Xs h1,RL h2]
theorem Xt {c d : V} (h : mq c = some d) : d = c := by
  cases c with
  | agg cs => obtain ⟨as,h2,h⟩ := Aa (show Ad (bu cs) _ = _ from h); cases h; rw [RL h2]
  | _ => exact Xs h
theorem Xu : ∀ {cs ds : List V},gB cs = some ds -> ds = cs
  | [],_,h => by cases h; rfl
  | c :: cs,_,h => by
    rw [gB] at h
    obtain ⟨a,h1,h⟩ := Aa h
    obtain ⟨as,h2,h⟩ := Aa h
    cases h; rw [Xt h1,Xu h2]
theorem Ge {c d : V} (h : frc c = some d) : d = c := by
  cases c with
  | tup cs => obtain ⟨as,h2,h⟩ := Aa (show Ad (gB cs) _ = _ from h); cases h; rw [Xu h2]
  | box cs => obtain ⟨as,h2,h⟩ := Aa (show Ad (bu cs) _ = _ from h); cases h; rw [RL h2]
  | cref s o => cases h; rfl
  | adr s o => cases h; rfl
  | same s => cases h; rfl
  | uni e n cs => cases h; rfl
  | _ => exact Xt h
def lk : PL -> Nat -> Option V
  | [],_ => none
  | (s,c) :: L,q => match Nat.beq q s with
    | true => some c
    | false => lk L q
theorem FC (s : Nat) (c : V) (L : PL) : ofL ((s,c) :: L) = upd (ofL L) s c := rfl
theorem Mz : ∀ (L : PL) (q : Nat),ofL L q = (lk L q).getD .undef
  | [],_ => rfl
  | (s,c) :: L,q => by
    rw [lk,FC]
    cases h : Nat.beq q s with
    | true => rw [Nat.eq_of_beq_eq_true h,upd_same]; rfl
    | false => rw [upd_ne _ _ (Nat.ne_of_beq_eq_false h)]; exact Mz L q
theorem Dx {L : PL} {q : Nat} {c : V} (h : lk L q = some c) : ofL L q = c := by rw [Mz,h]; rfl
def opO (L : PL) : Operand -> Option V
  | .tmp s => lk L s
  | .const v => frc (cV v)
  | .func f => some (.fn f)
  | _ => none
theorem Cb {L : PL} {x : Operand} {c : V} (h : opO L x = some c) : opV (ofL L) x = c := by
  cases x with
  | tmp s => exact Dx h
  | const v => exact (Ge h).symm
  | func f => cases h; rfl
  | _ => cases h
def adO (L : PL) : Operand -> Option V
  | .tmp s => Ad (lk L s) fun c => match c with
    | .box _ => some (.cref s 0)
    | c => some c
  | _ => none
theorem Nf {L : PL} {x : Operand} {c : V} (h : adO L x = some c) : adV (ofL L) x = c := by
  cases x with
  | tmp s =>
    obtain ⟨a,h1,h⟩ := Aa (show Ad (lk L s) _ = _ from h)
    have := Dx h1
    simp only [adV,this]
    cases a <;> (cases h; rfl)
  | _ => cases h
def lw : V -> Bool
  | .own .. => true
  | _ => false
def ly : V -> Bool
  | .agg cs => cs.any lw
  | c => lw c
def o7 : V -> Bool
  | .tup cs => cs.any ly
  | c => ly c
theorem d8 {c : V} (h : lw c = false) : dg1 c = c := by cases c <;> first | rfl | cases h
theorem VC : ∀ {cs : List V},cs.any lw = false -> cs.map dg1 = cs
  | [],_ => rfl
  | c :: cs,h => by
    rw [List.any_cons,Bool.or_eq_false_iff] at h
    rw [List.map_cons,d8 h.1,VC h.2]
theorem Ym {c : V} (h : ly c = false) : dg2 c = c := by
  cases c with
  | agg cs => rw [dg2,VC h]
  | _ => first | rfl | cases h
theorem VD : ∀ {cs : List V},cs.any ly = false -> cs.map dg2 = cs
  | [],_ => rfl
  | c :: cs,h => by
    rw [List.any_cons,Bool.or_eq_false_iff] at h
    rw [List.map_cons,Ym h.1,VD h.2]
theorem kn {c : V} (h : o7 c = false) : dg c = c := by
  cases c with
  | tup cs => rw [dg,VD h]
  | agg cs => exact Ym (c := .agg cs) h
  | _ => first | rfl | cases h
theorem V0 (σ : PS) (s : Nat) : upd σ s (σ s) = σ := by
  funext q
  by_cases e : q = s
  · rw [e,upd_same]
  · rw [upd_ne _ _ e]
def O5 (L : PL) (x : Operand) (c : V) : Option PL := match x with
  | .tmp s => match o7 c with
    | false => some L
    | true => Ad (frc (dg c)) fun c' => some ((s,c') :: L)
  | _ => some L
theorem Iv {L L' : PL} {x : Operand} {c : V} (h : opO L x = some c) (h2 : O5 L x c = some L') : ofL L' = Be (ofL L) x := by
  cases x with
  | tmp s =>
    have e := Dx h
    simp only [O5,Be] at h2 ⊢
    split at h2
    · rename_i ho
      cases h2
      rw [e,kn ho,<- e,V0]
    · obtain ⟨c',h3,h2⟩ := Aa h2
      cases h2
      rw [Ge h3,FC,e]
  | _ => cases h2; rfl
def mvO (L : PL) : Operand -> Option V
  | .tmp s => Ad (lk L s) fun c => match c with
    | .uni _ _ _ => some (.same s)
    | .same b => some (.same b)
    | .box _ => some (.cref s 0)
    | .cref b o => some (.cref b o)
    | c => ifB c.isVal (frc (dg c))
  | .const v => Ad (frc (cV v)) fun c => ifB c.isVal (frc (dg c))
  | _ => none
def RS : Option TyD -> Bool
  | some (.sc (.bool false)) => true
  | _ => false
def kEq : IntKind -> IntKind -> Bool
  | .i64,.i64 => true
  | .u8,.u8 => true
  | k,k' => decide (k = k')
theorem bE {k k' : IntKind} (h : kEq k k' = true) : k = k' := by
  cases k <;> cases k' <;> first | rfl | cases h
def ld (d : Option TyD) : BinOp -> V -> V -> Bool
  | .shl,.int _ _,.int _ b => decide (0 <= b)
  | .shr,.int _ _,.int _ b => decide (0 <= b)
  | .quo,.int k _,.int k' b => kEq k k' && !decide (b = 0)
  | .rem,.int k _,.int k' b => kEq k k' && !decide (b = 0)
  | _,.int k _,.int k' _ => kEq k k'
  | .eql,.str _,.str _ => true
  | .neq,.str _,.str _ => true
  | .lss,.str _,.str _ => true
  | .leq,.str _,.str _ => true
  | .gtr,.str _,.str _ => true
  | .geq,.str _,.str _ => true
  | .eql,.bool _,.bool _ => RS d
  | .neq,.bool _,.bool _ => RS d
  | _,_,_ => false
def unB : UnOp -> V -> Bool
  | .not,.bool _ => true
  | .neg,.int _ _ => true
  | _,_ => false
def cvB (tb : Tb) (s d : TypeId) (x : V) : Option V := match tb s,tb d,x with
  | some _,some (.sc (.int k _)),.int _ n => some (.int k (k.wrap n))
  | _,_,_ => none
def bxL (L : PL) (s : Nat) : Option (List V) := Ad (lk L s) DA
def dv (tb : Tb) (L : PL) (t : TypeId) (x : Operand) : Option V := Ad (tb t) fun d => Ad (adO L x) fun c => match c with
  | .cref s off => Ad (bxL L s) fun cs => ifB (Nat.ble (off + d.size) cs.length) (frc (getCells d cs off))
  | .adr cs off => ifB (Nat.ble (off + d.size) cs.length) (frc (getCells d cs off))
  | _ => none
def ptF (k : Nat) : Value -> Option V
  | .pointer (some ⟨g,o,none⟩) => some (.tok (.pointer (some ⟨g,o + k,none⟩)))
  | _ => none
theorem kq {k : Nat} {u : Value} {v : V} (h : ptF k u = some v) : li u = true ∧ tokF k u = v := by
  unfold ptF at h
  split at h
  · cases h; exact ⟨rfl,rfl⟩
  · cases h
def faO (tb : Tb) (L : PL) (t : TypeId) (x : Operand) (f : Nat) : Option V := Ad (tb t) fun d => match d with
  | .st _ _ fs => Ad (fs[f]?) fun p => Ad (adO L x) fun c => match c with
    | .cref s o => Ad (bxL L s) fun _ => some (.cref s (o + p.1))
    | .adr cs o => some (.adr cs (o + p.1))
    | .tok u => ptF p.1 u
    | _ => none
  | _ => none
def oZ (L : PL) (x : Operand) : Option V := Ad (adO L x) fun c => match c with
  | .cref s o => Ad (bxL L s) fun _ => some (.cref s o)
  | .adr cs o => some (.adr cs o)
  | _ => none
def Te : Option TyD -> Bool
  | some (.sc (.str [])) => true
  | _ => false
def XN : Option TyD -> Bool
  | some (.sl ..) => true
  | _ => false
def oY (L : PL) (d : Option TyD) : V -> Option V
  | .str s => ifB (Te d) (some (.int .i64 s.length))
  | .same b => Ad (lk L b) fun c => match c with
    | .uni _ n _ => ifB (XN d) (some (.int .i64 n))
    | _ => none
  | c => Ad (KT c) fun p => ifB (XN d) (some (.int .i64 p.1))
def W2 (tb : Tb) (L : PL) : Callee -> List Operand -> List TypeId -> Option V
  | .builtin .len,[x],[t] => Ad (opO L x) (oY L (tb t))
  | .builtin .max,[x,y],_ => Ad (opO L x) fun a => Ad (opO L y) fun b => match a,b with
    | .int k a,.int _ b => some (.int k (if a < b then b else a))
    | _,_ => none
  | .builtin .min,[x,y],_ => Ad (opO L x) fun a => Ad (opO L y) fun b => match a,b with
    | .int k a,.int _ b => some (.int k (if b < a then b else a))
    | _,_ => none
  | _,_,_ => none
def Ys (tb : Tb) (L : PL) : Op -> Option V
  | .move x => mvO L x
  | .pick c a b => Ad (opO L c) fun q => match q with
    | .bool e => match e with
      | true => Ad (opO L a) fun c => ifB c.isVal (frc (dg c))
      | false => Ad (opO L b) fun c => ifB c.isVal (frc (dg c))
    | _ => none
  | .binOp op t x y _ => Ad (opO L x) fun a => Ad (opO L y) fun b => ifB (ld (tb t) op a b) (frc (cA op a b))
  | .unOp op _ x => Ad (opO L x) fun a => ifB (unB op a) (frc (unV op a))
  | .convert s d x => Ad (opO L x) fun a => cvB tb s d a
  | .load t x => dv tb L t x
  | .fieldAddr t x f => faO tb L t x f
  | .call c => W2 tb L c.callee c.args.toList c.argTypes.toList
  | _ => none
theorem Wq {d : Option TyD} (h : RS d = true) : d = some (.sc (.bool false)) := by
  unfold RS at h
  split at h
  · rfl
  · cases h
theorem Tf {d : Option TyD} (h : Te d = true) : d = some (.sc (.str [])) := by
  unfold Te at h
  split at h
  · rfl
  · cases h
theorem Vl {d : Option TyD} (h : XN d = true) : ∃ e es eb ez,d = some (.sl e es eb ez) := by
  unfold XN at h
  split at h
  · exact ⟨_,_,_,_,rfl⟩
  · cases h
theorem cz {d : Option TyD} {op : BinOp} {a b : V} (h : ld d op a b = true) : Zo d op a b := by
  cases a <;> cases b <;> cases op <;> first | (cases h; done) | exact trivial | exact Wq h | exact bE h | (simp only [ld,decide_eq_true_eq] at h; exact h) | (simp only [ld,Bool.and_eq_true,Bool.not_eq_true',decide_eq_false_iff_not] at h; exact ⟨bE h.1,h.2⟩)
theorem kS {op : UnOp} {a : V} (h : unB op a = true) : unC op a := by
  cases a <;> cases op <;> first | (cases h; done) | exact trivial
theorem kX {σ : PS} {s : Nat} {c : V} (e : σ s = c) (h : c.isVal = true) : mvC σ (.tmp s) ∧ mvV σ (.tmp s) = dg c := by
  subst e
  simp only [mvC,mvV]
  cases hc : σ s <;> rw [hc] at h <;> first | (cases h; done) | exact ⟨h,rfl⟩
theorem bP {L : PL} {x : Operand} {v : V} (h : mvO L x = some v) : mvC (ofL L) x ∧ mvV (ofL L) x = v := by
  cases x with
  | tmp s =>
    obtain ⟨c,h1,h⟩ := Aa (show Ad (lk L s) _ = _ from h)
    have e := Dx h1
    cases c with
    | uni a b c => cases h; simp only [mvC,mvV,e]; exact ⟨trivial,trivial⟩
    | same b => cases h; simp only [mvC,mvV,e]; exact ⟨trivial,trivial⟩
    | box b => cases h; simp only [mvC,mvV,e]; exact ⟨trivial,trivial⟩
    | cref b o => cases h; simp only [mvC,mvV,e]; exact ⟨trivial,trivial⟩
    | _ =>
      obtain ⟨h2,h3⟩ := BL h
      obtain ⟨h4,h5⟩ := kX e h2
      exact ⟨h4,h5.trans (Ge h3).symm⟩
  | const c =>
    obtain ⟨c,h1,h⟩ := Aa (show Ad (frc (cV c)) _ = _ from h)
    obtain ⟨h2,h3⟩ := BL h
    have e := Ge h1
    subst e
    exact ⟨h2,(Ge h3).symm⟩
  | _ => cases h
theorem Vr {tb : Tb} {L : PL} {t : TypeId} {x : Operand} {v : V} (h : dv tb L t x = some v) : Nx (tb t) (ofL L) (adV (ofL L) x) ∧ Ny (tb t) (ofL L) (adV (ofL L) x) = v := by
  obtain ⟨d,h1,h⟩ := Aa h
  obtain ⟨c,h2,h⟩ := Aa h
  rw [h1,Nf h2]
  simp only [Nx,Ny]
  cases c with
  | cref s off =>
    obtain ⟨cs,h3,h⟩ := Aa h
    obtain ⟨h4,h⟩ := BL h
    obtain ⟨c,h5,h6⟩ := Aa h3
    have := Dx h5
    simp only [Qg,R5,this,h6]
    exact ⟨nb h4,(Ge h).symm⟩
  | adr cs off =>
    obtain ⟨h4,h⟩ := BL h
    exact ⟨nb h4,(Ge h).symm⟩
  | _ => cases h
theorem bq {tb : Tb} {L : PL} {t : TypeId} {x : Operand} {f : Nat} {v : V} (h : faO tb L t x f = some v) : bp (tb t) f (ofL L) (adV (ofL L) x) ∧ gx (tb t) f (adV (ofL L) x) = v := by
  obtain ⟨d,h1,h⟩ := Aa h
  cases d with
  | st n z fs =>
    obtain ⟨p,h2,h⟩ := Aa h
    obtain ⟨c,h3,h⟩ := Aa h
    rw [h1,Nf h3]
    simp only [bp,gx,h2]
    cases c with
    | cref s o =>
      obtain ⟨cs,h4,h⟩ := Aa h
      obtain ⟨c,h5,h6⟩ := Aa h4
      cases h
      have := Dx h5
      exact ⟨⟨cs,by rw [this,h6]⟩,rfl⟩
    | adr cs o => cases h; exact ⟨trivial,rfl⟩
    | tok u => exact kq h
    | _ => cases h
  | _ => cases h
theorem dO {L : PL} {x : Operand} {v : V} (h : oZ L x = some v) : faC (ofL L) (adV (ofL L) x) ∧ adV (ofL L) x = v := by
  obtain ⟨c,h3,h⟩ := Aa h
  rw [Nf h3]
  cases c with
  | cref s o =>
    obtain ⟨cs,h4,h⟩ := Aa h
    obtain ⟨c,h5,h6⟩ := Aa h4
    cases h
    have := Dx h5
    exact ⟨⟨cs,by rw [this,h6]⟩,rfl⟩
  | adr cs o => cases h; exact ⟨trivial,rfl⟩
  | _ => cases h
theorem Vq {L : PL} {d : Option TyD} {c v : V} {n : Nat} {cs : List V} (hs : KT c = some (n,cs)) (h : ifB (XN d) (some (V.int .i64 n)) = some v) : QW d (ofL L) c ∧ Zd (ofL L) c = v := by
  obtain ⟨h2,h⟩ := BL h
  obtain ⟨a,b,z,q,rfl⟩ := Vl h2
  cases h
  cases c <;> first | (cases hs; done) | (cases hs; exact ⟨trivial,rfl⟩)
theorem dq {L : PL} {d : Option TyD} {c v : V} (h : oY L d c = some v) : QW d (ofL L) c ∧ Zd (ofL L) c = v := by
  cases c with
  | str s =>
    obtain ⟨h1,h⟩ := BL (show ifB (Te d) _ = _ from h)
    cases h; exact ⟨Tf h1,rfl⟩
  | same b =>
    obtain ⟨c,h1,h⟩ := Aa (show Ad (lk L b) _ = _ from h)
    have := Dx h1
    cases c with
    | uni e n cs =>
      obtain ⟨h2,h⟩ := BL h
      obtain ⟨a,b,c,z,rfl⟩ := Vl h2
      cases h
      simp only [QW,Zd,this]; exact ⟨trivial,trivial⟩
    | _ => cases h
  | own e n cs => exact Vq rfl h
  | dat n cs => exact Vq rfl h
  | arg n cs => exact Vq rfl h
  | pin u n cs => exact Vq rfl h
  | _ => cases h
theorem Rs {tb : Tb} {L : PL} {c : Callee} {xs : List Operand} {ts : List TypeId} {v : V} (h : W2 tb L c xs ts = some v) : LY tb (ofL L) c xs ts ∧ Kg (ofL L) c xs = v := by
  unfold W2 at h
  split at h
  · obtain ⟨a,h1,h⟩ := Aa h
    simp only [LY,Kg,Cb h1]
    exact dq h
  · obtain ⟨a,h1,h⟩ := Aa h
    obtain ⟨b,h2,h⟩ := Aa h
    simp only [LY,Kg,Cb h1,Cb h2]
    split at h
    · cases h; exact ⟨trivial,rfl⟩
    · cases h
  · obtain ⟨a,h1,h⟩ := Aa h
    obtain ⟨b,h2,h⟩ := Aa h
    simp only [LY,Kg,Cb h1,Cb h2]
    split at h
    · cases h; exact ⟨trivial,rfl⟩
    · cases h
  · cases h
theorem Pm {tb : Tb} {L : PL} {op : Op} {v : V} (h : Ys tb L op = some v) : pc tb (ofL L) op ∧ pv tb (ofL L) op = v := by
  cases op with
  | move x => exact bP h
  | pick c a b =>
    obtain ⟨q,h1,h⟩ := Aa (show Ad (opO L c) _ = _ from h)
    simp only [pc,pv,Cb h1]
    cases q with
    | bool e =>
      cases e with
      | true =>
        obtain ⟨c,h2,h⟩ := Aa h
        obtain ⟨h3,h⟩ := BL h
        simp only [UD,UE,Cb h2,if_true]; exact ⟨h3,(Ge h).symm⟩
      | false =>
        obtain ⟨c,h2,h⟩ := Aa h
        obtain ⟨h3,h⟩ := BL h
        simp only [UD,UE,Cb h2,Bool.false_eq_true,if_false]; exact ⟨h3,(Ge h).symm⟩
    | _ => cases h
  | binOp op t x y t' =>
    obtain ⟨a,h1,h⟩ := Aa (show Ad (opO L x) _ = _ from h)
    obtain ⟨b,h2,h⟩ := Aa h
    obtain ⟨h3,h⟩ := BL h
    simp only [pc,pv,Cb h1,Cb h2]
    exact ⟨cz h3,(Ge h).symm⟩
  | unOp op t x =>
    obtain ⟨a,h1,h⟩ := Aa (show Ad (opO L x) _ = _ from h)
    obtain ⟨h3,h⟩ := BL h
    simp only [pc,pv,Cb h1]
    exact ⟨kS h3,(Ge h).symm⟩
  | convert s d x =>
    obtain ⟨a,h1,h⟩ := Aa (show Ad (opO L x) _ = _ from h)
    simp only [pc,pv,Cb h1]
    unfold cvB at h
    split at h
    · rename_i h2 h3
      cases h
      simp only [Ua,Wf,h2,h3]; exact ⟨trivial,trivial⟩
    · cases h
  | load t x => exact Vr h
  | fieldAddr t x f => exact bq h
  | call c => exact Rs h
  | _ => cases h
def Qy (L : PL) (g : Option (Option Nat × Bool)) (d : Nat) (v : Option PL) : Option PL := match g with
  | none => v
  | some (some q,b) => Ad (lk L q) fun c => match c with
    | .bool e => match e,b with
      | true,true => v
      | false,false => v
      | _,_ => some ((d,.tup []) :: L)
    | .tup _ => some ((d,.tup []) :: L)
    | _ => none
  | some (none,_) => none
def lb (tb : Tb) (t : TypeId) (x : Operand) (d : Nat) (L : PL) : Option PL := match x with
  | .const (.slice none 0 0) => Ad (tb t) fun dd => match dd with
    | .sl e _ _ _ => some ((d,.own e 0 []) :: L)
    | _ => none
  | .const (.pointer none) => some ((d,.undef) :: L)
  | .tmp p => Ad (lk L p) fun c => match c with
    | .box _ => some ((d,.cref p 0) :: L)
    | .cref b o => some ((d,.cref b o) :: L)
    | c => ifB c.isVal (Ad (O5 L (.tmp p) c) fun L' => some ((d,c) :: L'))
  | .const v => Ad (frc (cV v)) fun c => ifB c.isVal (some ((d,c) :: L))
  | _ => none
def loadT (tb : Tb) (t : TypeId) (x : Operand) (d : Nat) (L : PL) : Option PL := Ad (tb t) fun dd => Ad (adO L x) fun a => match a with
  | .cref s off => Ad (lk L s) fun c => match c with
    | .box cs => ifB (Nat.ble (off + dd.size) cs.length) (Ad (frc (.box (JO dd.size cs off))) fun b => Ad (frc (Lh dd cs off)) fun v => some ((d,v) :: (s,b) :: L))
    | _ => none
  | .adr cs off => ifB (Nat.ble (off + dd.size) cs.length) (Ad (frc (getCells dd cs off)) fun v => some ((d,v) :: L))
  | _ => none
def px (s i d : Nat) (L : PL) : Option PL := Ad (lk L s) fun t => match t with
  | .tup cs => Ad (cs[i]?) fun c => ifB (cs.all V.isArg) (Ad (frc (.tup (cs.set i (dg2 c)))) fun t' => some ((d,c) :: (s,t') :: L))
  | _ => none
def p6 (tb : Tb) (t : TypeId) (x y : Operand) (L : PL) : Option PL := Ad (tb t) fun dd => Ad (adO L x) fun a => match a with
  | .cref s off => Ad (lk L s) fun b => match b with
    | .box cs => Ad (opO L y) fun c => ifB (c.isArg && (Nat.beq (FO c).length dd.size && Nat.ble (off + dd.size) cs.length)) (Ad (O5 L y c) fun L' => Ad (frc (.box (Oz cs off (FO c)))) fun b' => some ((s,b') :: L'))
    | _ => none
  | _ => none
def nbL (L : PL) (d : Nat) : Bool := match lk L d with
  | some c => BY c
  | none => true
theorem Vv {L : PL} {d : Nat} (h : nbL L d = true) : BY (ofL L d) = true := by
  unfold nbL at h
  rw [Mz]
  cases hl : lk L d with
  | none => rfl
  | some c => rw [hl] at h; exact h
def alO (tb : Tb) (t : TypeId) (d : Nat) (L : PL) : Option PL := Ad (tb t) fun dd => ifB (nbL L d) (Ad (frc (.box (US dd))) fun b => some ((d,b) :: L))
def me (x : Operand) (d : Nat) (L : PL) : Option PL := Ad (opO L x) fun c => ifB c.isArg (Ad (O5 L x c) fun L' => ifB (nbL L' d) (Ad (frc (.box (FO c))) fun b => some ((d,b) :: L')))
def Xq (place : Nat -> Option (Nat × Nat)) : List (Nat × Operand) -> PL -> List V -> Option (PL × List V)
  | [],L,cs => some (L,cs)
  | (i,x) :: r,L,cs => Ad (place i) fun p => Ad (opO L x) fun c => ifB (c.isArg && (Nat.beq (FO c).length p.2 && Nat.ble (p.1 + p.2) cs.length)) (Ad (O5 L x c) fun L' => Xq place r L' (Oz cs p.1 (FO c)))
theorem RJ {place : Nat -> Option (Nat × Nat)} : ∀ {ps : List (Nat × Operand)} {L L' : PL} {cs cs' : List V},Xq place ps L cs = some (L',cs') -> Mm place ps (ofL L) cs = some (ofL L',cs')
  | [],_,_,_,_,h => by cases h; rfl
  | (i,x) :: r,L,L',cs,cs',h => by
    rw [Xq] at h
    obtain ⟨p,h1,h⟩ := Aa h
    obtain ⟨c,h2,h⟩ := Aa h
    obtain ⟨h3,h⟩ := BL h
    obtain ⟨L1,h4,h⟩ := Aa h
    simp only [Bool.and_eq_true] at h3
    rw [Mm,h1]
    simp only
    rw [Cb h2,if_pos ⟨h3.1,Nat.eq_of_beq_eq_true h3.2.1,nb h3.2.2⟩,<- Iv h2 h4]
    exact RJ h
def pn (tb : Tb) (t : TypeId) (ps : List (Nat × Operand)) (d : Nat) (L : PL) : Option PL := Ad (tb t) fun dd => match dd with
  | .st _ z fs => Ad (Xq (fun i => fs[i]?) ps L z) fun q => Ad (frc (.agg q.2)) fun c => some ((d,c) :: q.1)
  | _ => none
def J3 (tb : Tb) (cns : List Nat) (o : LO) (L : PL) : Option PL := match o with
  | ⟨some d,op,t,g⟩ => match op with
    | .assign x => match g,cns.contains d with
      | none,false => lb tb t x d L
      | _,_ => none
    | .move x => match cns.contains d with
      | true => (match g with
        | none => lb tb t x d L
        | _ => none)
      | false => Qy L g d (Ad (mvO L x) fun v => some ((d,v) :: L))
    | .load t x => match cns.contains d with
      | true => (match g with
        | none => loadT tb t x d L
        | _ => none)
      | false => Qy L g d (Ad (dv tb L t x) fun v => some ((d,v) :: L))
    | .extract (.tmp s) i => match g with
      | none => px s i d L
      | _ => none
    | .alloc t => match g with
      | none => alO tb t d L
      | _ => none
    | .box _ x => match g with
      | none => me x d L
      | _ => none
    | .build t ps => Qy L g d (pn tb t ps.toList d L)
    | .pick c a b => Qy L g d (Ad (Ys tb L (.pick c a b)) fun v => some ((d,v) :: L))
    | .binOp p t x y t' => Qy L g d (Ad (Ys tb L (.binOp p t x y t')) fun v => some ((d,v) :: L))
    | .unOp p t x => Qy L g d (Ad (Ys tb L (.unOp p t x)) fun v => some ((d,v) :: L))
    | .convert s t x => Qy L g d (Ad (Ys tb L (.convert s t x)) fun v => some ((d,v) :: L))
    | .fieldAddr t x f => Qy L g d (Ad (faO tb L t x f) fun v => some ((d,v) :: L))
    | .nilCheck x => Qy L g d (Ad (oZ L x) fun v => some ((d,v) :: L))
    | .call c => match c.callee with
      | .value (.func _) => (match cns.contains d with
        | true => none
        | false => Qy L g d none)
      | .value (.tmp _) => none
      | .value (.const _) => none
      | .value (.global _) => none
      | _ => Qy L g d (Ad (W2 tb L c.callee c.args.toList c.argTypes.toList) fun v => some ((d,v) :: L))
    | .index .. => Qy L g d none
    | .indexAddr .. => Qy L g d none
    | .slice .. => Qy L g d none
    | .buildSlice .. => Qy L g d none
    | .field .. => Qy L g d none
    | _ => none
  | ⟨none,.store t x y,_,none⟩ => p6 tb t x y L
  | _ => none
section
variable {P : Program} {tb : Tb} {cns : List Nat} {L L' : PL} {K : PS -> Prop} {d : Nat}
theorem GO {op : Op} {t : TypeId} {g : Option (Option Nat × Bool)} {v : Option V} (hv : ∀ r,v = some r -> pc tb (ofL L) op ∧ pv tb (ofL L) op = r) (h : Qy L g d (Ad v fun v => some ((d,v) :: L)) = some L') (k : K (ofL L')) : IP tb ⟨some d,op,t,g⟩ (ofL L) K := by
  have run : ∀ {L' : PL},Ad v (fun v => some ((d,v) :: L)) = some L' -> K (ofL L') -> pc tb (ofL L) op ∧ K (upd (ofL L) d (pv tb (ofL L) op)) := by
    intro L' h k
    obtain ⟨r,h1,h⟩ := Aa h
    cases h
    obtain ⟨h2,h3⟩ := hv r h1
    exact ⟨h2,by rw [h3]; exact k⟩
  unfold Qy at h
  split at h
  · exact run h k
  · rename_i q b
    obtain ⟨c,h1,h⟩ := Aa h
    simp only [IP,Dx h1]
    cases c with
    | bool e =>
      cases e <;> cases b <;> simp only at h <;> first
        | exact ⟨rfl,fun _ => run h k,fun e => by cases e⟩
        | (cases h; exact ⟨rfl,(fun e => by cases e),fun _ => k⟩)
    | tup cs => cases h; exact ⟨rfl,(fun e => by cases e),fun _ => k⟩
    | _ => cases h
  · cases h
theorem RN {o : LO} {g : Option (Option Nat × Bool)} {v : Option PL} {X : Prop} (ho : o.g = g) (hv : ∀ L',v = some L' -> K (ofL L') -> X) (h : Qy L g d v = some L') (k : K (ofL L')) : QG o d (ofL L) K X := by
  subst ho
  unfold Qy at h
  unfold QG
  split at h
  · rename_i e; rw [e]; exact hv _ h k
  · rename_i q b e
    rw [e]
    obtain ⟨c,h1,h⟩ := Aa h
    simp only [Dx h1]
    cases c with
    | bool e =>
      cases e <;> cases b <;> simp only at h <;> first
        | exact ⟨rfl,fun _ => hv _ h k,fun e => by cases e⟩
        | (cases h; exact ⟨rfl,(fun e => by cases e),fun _ => k⟩)
    | tup cs => cases h; exact ⟨rfl,(fun e => by cases e),fun _ => k⟩
    | _ => cases h
  · cases h
theorem WQ {x : Operand} {o : LO} (h : lb tb o.ty x d L = some L') (k : K (ofL L')) : O7 tb o x d (ofL L) K := by
  unfold lb at h
  split at h
  · obtain ⟨dd,h1,h⟩ := Aa h
    cases dd with
    | sl e es eb ez => cases h; simp only [O7,h1]; exact k
    | _ => cases h
  · cases h; simp only [O7]; exact k
  · rename_i p
    obtain ⟨c,h1,h⟩ := Aa h
    have gen : ifB c.isVal (Ad (O5 L (.tmp p) c) fun L' => some ((d,c) :: L')) = some L' -> O7 tb o (.tmp p) d (ofL L) K := by
      intro h
      obtain ⟨h2,h⟩ := BL h
      obtain ⟨L1,h3,h⟩ := Aa h
      cases h
      have e := Iv (x := .tmp p) h1 h3
      rw [FC,e] at k
      exact cw (Dx h1) h2 (by rw [<- Dx h1]; simp only [Be] at k; rw [Dx h1] at k ⊢; exact k)
    cases c with
    | box cs => cases h; simp only [O7,Dx h1]; exact k
    | cref b o => cases h; simp only [O7,Dx h1]; exact k
    | _ => exact gen h
  · rename_i v hn hn2
    obtain ⟨c,h1,h⟩ := Aa h
    obtain ⟨h2,h⟩ := BL h
    cases h
    have e := Ge h1
    subst e
    unfold O7
    split
    · rename_i he; injection he with he; exact absurd (by rw [he]) hn
    · rename_i he; injection he with he; exact absurd (by rw [he]) hn2
    · rename_i he; cases he
    · exact ⟨h2,k⟩
  · cases h
theorem mf {t : TypeId} {cal : Callee} {args : Array Operand} {ts : Array TypeId} {g : Option (Option Nat × Bool)} {L L' : PL} (h : Qy L g d (Ad (W2 tb L cal args.toList ts.toList) fun v => some ((d,v) :: L)) = some L') (k : K (ofL L')) : IP tb ⟨some d,.call ⟨cal,args,ts⟩,t,g⟩ (ofL L) K := GO (op := .call ⟨cal,args,ts⟩) (fun r hr => Rs hr) h k
theorem SB {o : LO} (h : J3 tb cns o L = some L') (k : K (ofL L')) : evO P tb cns o (ofL L) K := by
  obtain ⟨dst,op,t,g⟩ := o
  cases dst with
  | none =>
    unfold J3 at h
    split at h
    · rename_i he; cases he
    · rename_i t' x y ty he
      injection he with e1 e2 e3 e4
      subst e2 e4
      obtain ⟨dd,h1,h⟩ := Aa h
      obtain ⟨a,h2,h⟩ := Aa h
      cases a with
      | cref s off =>
        obtain ⟨b,h3,h⟩ := Aa h
        cases b with
        | box cs =>
          obtain ⟨c,h4,h⟩ := Aa h
          obtain ⟨h5,h⟩ := BL h
          obtain ⟨L1,h6,h⟩ := Aa h
          obtain ⟨b',h7,h⟩ := Aa h
          cases h
          simp only [Bool.and_eq_true] at h5
          have e := Ge h7
          subst e
          simp only [evO,aJ,h1,Nf h2,Dx h3,DA,O4,Cb h4]
          refine ⟨trivial,h5.1,Nat.eq_of_beq_eq_true h5.2.1,nb h5.2.2,?_⟩
          rw [<- Iv h4 h6]; exact k
        | _ => cases h
      | _ => cases h
    · cases h
  | some d =>
    cases op with
    | assign x =>
      simp only [J3] at h
      split at h
      · rename_i hc
        simp only [evO,hc,Bool.false_eq_true,if_false]
        exact ⟨trivial,WQ (o := ⟨some d,.assign x,t,none⟩) h k⟩
      · cases h
    | move x =>
      simp only [J3] at h
      split at h
      · rename_i hc
        cases g with
        | none =>
          simp only [evO,hc,if_true]
          exact ⟨trivial,WQ (o := ⟨some d,.move x,t,none⟩) h k⟩
        | some g => cases h
      · rename_i hc
        simp only [evO,hc,Bool.false_eq_true,if_false]
        exact GO (fun r hr => bP hr) h k
    | load s x =>
      simp only [J3] at h
      split at h
      · rename_i hc
        cases g with
        | none =>
          simp only [evO,hc,if_true]
          refine ⟨trivial,?_⟩
          obtain ⟨dd,h1,h⟩ := Aa h
          obtain ⟨a,h2,h⟩ := Aa h
          simp only [Th,h1,Nf h2]
          cases a with
          | cref b off =>
            obtain ⟨c,h3,h⟩ := Aa h
            cases c with
            | box cs =>
              obtain ⟨h4,h⟩ := BL h
              obtain ⟨b',h5,h⟩ := Aa h
              obtain ⟨v,h6,h⟩ := Aa h
              cases h
              rw [Ge h5,Ge h6] at k
              simp only [Dx h3,DA,O4]
              exact ⟨nb h4,k⟩
            | _ => cases h
          | adr cs off =>
            obtain ⟨h4,h⟩ := BL h
            obtain ⟨v,h6,h⟩ := Aa h
            cases h
            rw [Ge h6] at k
            exact ⟨nb h4,k⟩
          | _ => cases h
        | some g => cases h
      · rename_i hc
        simp only [evO,hc,Bool.false_eq_true,if_false]
        exact GO (fun r hr => Vr hr) h k
    | extract x i =>
      cases x with
      | tmp s =>
        cases g with
        | none =>
          simp only [J3] at h
          obtain ⟨a,h1,h⟩ := Aa h
          cases a with
          | tup cs =>
            obtain ⟨c,h2,h⟩ := Aa h
            obtain ⟨h3,h⟩ := BL h
            obtain ⟨v,h4,h⟩ := Aa h
            cases h
            rw [Ge h4] at k
            simp only [evO,bo,Dx h1,h2]
            exact ⟨trivial,h3,k⟩
          | _ => cases h
        | some g => cases h
      | _ => cases h
    | alloc s =>
      cases g with
      | none =>
        obtain ⟨dd,h1,h⟩ := Aa (show Ad (tb s) _ = _ from h)
        obtain ⟨h2,h⟩ := BL h
        obtain ⟨v,h4,h⟩ := Aa h
        cases h
        rw [Ge h4] at k
        exact ml (Vv h2) h1 k
      | some g => cases h
    | box ty x =>
      cases g with
      | none =>
        obtain ⟨c,h1,h⟩ := Aa (show Ad (opO L x) _ = _ from h)
        obtain ⟨h2,h⟩ := BL h
        obtain ⟨L1,h3,h⟩ := Aa h
        obtain ⟨h4,h⟩ := BL h
        obtain ⟨v,h5,h⟩ := Aa h
        cases h
        rw [Ge h5] at k
        have e := Iv h1 h3
        have h4 := Vv h4
        rw [e] at h4
        simp only [evO,boxS,Cb h1]
        exact ⟨trivial,h2,h4,by rw [<- e]; exact k⟩
      | some g => cases h
    | build s ps =>
      simp only [J3] at h
      simp only [evO]
      refine RN rfl (fun L1 h k => ?_) h k
      obtain ⟨dd,h1,h⟩ := Aa h
      cases dd with
      | st n z fs =>
        obtain ⟨q,h2,h⟩ := Aa h
        obtain ⟨c,h3,h⟩ := Aa h
        cases h
        rw [Ge h3] at k
        simp only [OC,h1,RJ (L' := q.1) (cs' := q.2) h2]
        exact k
      | _ => cases h
    | pick c a b => simp only [J3] at h; exact GO (op := .pick c a b) (fun r hr => Pm hr) h k
    | binOp p t x y t' => simp only [J3] at h; exact GO (op := .binOp p t x y t') (fun r hr => Pm hr) h k
    | unOp p t x => simp only [J3] at h; exact GO (op := .unOp p t x) (fun r hr => Pm hr) h k
    | convert s t x => simp only [J3] at h; exact GO (op := .convert s t x) (fun r hr => Pm hr) h k
    | fieldAddr t x f => simp only [J3] at h; exact GO (op := .fieldAddr t x f) (fun r hr => bq hr) h k
    | nilCheck x => simp only [J3] at h; exact GO (op := .nilCheck x) (fun r hr => dO hr) h k
    | index s x y => simp only [J3] at h; exact GO (op := .index s x y) (v := none) (fun r hr => by cases hr) h k
    | indexAddr s x y => simp only [J3] at h; exact GO (op := .indexAddr s x y) (v := none) (fun r hr => by cases hr) h k
    | slice s x lo hi m => simp only [J3] at h; exact GO (op := .slice s x lo hi m) (v := none) (fun r hr => by cases hr) h k
    | buildSlice s n ps => simp only [J3] at h; simp only [evO]; exact RN rfl (fun L1 h k => by cases h) h k
    | field s x f => simp only [J3] at h; simp only [evO]; exact RN rfl (fun L1 h k => by cases h) h k
    | call c =>
      obtain ⟨cal,args,ts⟩ := c
      simp only [J3] at h
      cases cal with
      | value x =>
        cases x with
        | func f =>
          simp only at h
          cases hcd : cns.contains d with
          | true => rw [hcd] at h; cases h
          | false =>
            rw [hcd] at h
            simp only at h
            show KB P cns ⟨some d,.call ⟨.value (.func f),args,ts⟩,t,g⟩ f args.toList (ofL L) K
            unfold KB
            rw [if_neg (by simpa using hcd)]
            left
            unfold MH
            unfold Qy at h
            cases g with
            | none => cases h
            | some g =>
              obtain ⟨q,b⟩ := g
              cases q with
              | none => cases h
              | some q =>
                obtain ⟨c,h1,h⟩ := Aa (show Ad (lk L q) _ = _ from h)
                simp only [Dx h1]
                cases c with
                | bool e =>
                  cases e <;> cases b <;> simp only at h <;> first
                    | (cases h; done)
                    | (cases h; exact ⟨rfl,(fun e => by cases e),fun _ => k⟩)
                | tup cs => cases h; exact ⟨rfl,(fun e => by cases e),fun _ => k⟩
                | _ => cases h
        | _ => cases h
      | builtin b =>
        have hp : IP tb ⟨some d,.call ⟨.builtin b,args,ts⟩,t,g⟩ (ofL L) K := GO (op := .call ⟨.builtin b,args,ts⟩) (fun r hr => Rs hr) h k
        cases b with
        | append =>
          simp only [evO,OD]
          split
          · rename_i heq; cases heq
          · rename_i _ heq _ _
            injection heq with heq
            subst heq
            refine RN rfl (fun L1 h k => ?_) h k
            obtain ⟨r,hr,_⟩ := Aa h
            cases hr
          · exact hp
        | _ => exact hp
      | _ => exact mf h k
    | _ => cases h
end
def aI (tb : Tb) (cns : List Nat) : Nat -> List LO -> PL -> Option (List LO × PL)
  | 0,os,L => some (os,L)
  | _ + 1,[],_ => none
  | n + 1,o :: os,L => Ad (J3 tb cns o L) fun L' => aI tb cns n os L'
def lc (L : PL) (R : List Nat) (p : Nat) : Bool := match lk L p with
  | some c => bas R c
  | none => true
theorem WU {L : PL} {R : List Nat} {p : Nat} (h : lc L R p = true) : bas R (ofL L p) = true := by
  unfold lc at h
  rw [Mz]
  cases hl : lk L p with
  | none => rfl
  | some c => rw [hl] at h; exact h
def cx (L : PL) (R W : List Nat) (p : Nat) : Bool := match lk L p with
  | some c => bg R W p c
  | none => true
theorem Zm {L : PL} {R W : List Nat} {p : Nat} (h : cx L R W p = true) : bg R W p (ofL L p) = true := by
  unfold cx at h
  rw [Mz]
  cases hl : lk L p with
  | none => rfl
  | some c => rw [hl] at h; exact h
def X5 (L : PL) (p : Nat) : Bool := match lk L p with
  | some c => X4 c
  | none => true
theorem X6 {L : PL} {p : Nat} (h : X5 L p = true) : X4 (ofL L p) = true := by
  unfold X5 at h
  rw [Mz]
  cases hl : lk L p with
  | none => rfl
  | some c => rw [hl] at h; exact h
def md (L : PL) (p : Nat) : Bool := match lk L p with
  | some c => fS c
  | none => false
theorem cD {L : PL} {p : Nat} (h : md L p = true) : fS (ofL L p) = true := by
  unfold md at h
  rw [Mz]
  cases hl : lk L p with
  | none => rw [hl] at h; cases h
  | some c => rw [hl] at h; exact h
def stepD (tb : Tb) (cns : List Nat) : Nat -> List (List Nat × List Nat) -> List LO -> PL -> Option (List (List Nat × List Nat) × List LO × PL)
  | 0,fps,os,L => some (fps,os,L)
  | n + 1,(R,W) :: fps,o :: os,L => ifB ((adP o.op).all (lc L R) && ((adC o.op).all (cx L R W) && ((adS o.op).all (X5 L) && ((adU cns o).all (lc L R) && (ptS cns).all (md L))))) (Ad (J3 tb cns o L) fun L' => stepD tb cns n fps os L')
  | _ + 1,_,_,_ => none
def Wr (L : PL) : List Nat -> Option PL
  | [] => some []
  | s :: ss => Ad (lk L s) fun c => Ad (Wr L ss) fun L' => some ((s,c) :: L')
def Ws (L : PL) (ss : List Nat) : Option PL := Ad (Wr L ss) fun L' => ifB (okR L') (some L')
theorem Vm {L : PL} : ∀ {ss : List Nat} {L' : PL},Wr L ss = some L' -> okK (ofL L) L'
  | [],_,h => by cases h; trivial
  | s :: ss,_,h => by
    rw [Wr] at h
    obtain ⟨c,h1,h⟩ := Aa h
    obtain ⟨L1,h2,h⟩ := Aa h
    cases h
    exact ⟨(Dx h1) ▸ kr,Vm h2⟩
theorem Vn {L L' : PL} {ss : List Nat} (h : Ws L ss = some L') : okK (ofL L) L' ∧ okR L' = true := by
  obtain ⟨L1,h1,h⟩ := Aa h
  obtain ⟨h2,h⟩ := BL h
  cases h
  exact ⟨Vm h1,h2⟩
def Wp : Nat -> List V -> PL
  | _,[] => []
  | i,c :: cs => (i,c) :: Wp (i + 1) cs
theorem bD : ∀ (args : List V) (i s : Nat),okK (fun q => (args[q - i]?).getD (.tup [])) (Wp i args)
  | [],_,_ => trivial
  | c :: cs,i,s => by
    refine ⟨by simpa using kr,?_⟩
    have h := bD cs (i + 1) s
    have key : ∀ (L : PL) (f g : PS),(∀ p ∈ L,f p.1 = g p.1) -> okK f L -> okK g L := by
      intro L f g
      induction L with
      | nil => intro _ _; trivial
      | cons p L ih =>
        obtain ⟨q,c⟩ := p
        intro he hk
        exact ⟨by rw [<- he (q,c) (by simp)]; exact hk.1,ih (fun p hp => he p (by simp [hp])) hk.2⟩
    have hlow : ∀ (cs : List V) (j : Nat),∀ p ∈ Wp j cs,j <= p.1 := by
      intro cs
      induction cs with
      | nil => intro j p hp; simp [Wp] at hp
      | cons c cs ih =>
        intro j p hp
        simp only [Wp,List.mem_cons] at hp
        rcases hp with rfl | hp
        · exact Nat.le_refl _
        · have := ih (j + 1) p hp; omega
    refine key _ _ _ (fun p hp => ?_) h
    have := hlow cs (i + 1) p hp
    rw [show p.1 - i = (p.1 - (i + 1)) + 1 by omega,List.getElem?_cons_succ]
section
variable {P : Program} {tb : Tb} {cns : List Nat} {L L' : PL} {K : PS -> Prop} {ops os : List LO} {fps fps' : List (List Nat × List Nat)}
theorem VU : ∀ {n : Nat} {ops : List LO} {L : PL},aI tb cns n ops L = some (os,L') -> evS P tb cns os (ofL L') K -> evS P tb cns ops (ofL L) K
  | 0,_,_,h,k => by cases h; exact k
  | _ + 1,[],_,h,_ => by cases h
  | n + 1,o :: ops,L,h,k => by
    rw [aI] at h
    obtain ⟨L1,h1,h⟩ := Aa h
    exact SB (K := fun σ' => evS P tb cns ops σ' K) h1 (VU h k)
theorem sp (n : Nat) (h : aI tb cns n ops L = some (os,L')) (k : evS P tb cns os (ofL L') K) : evS P tb cns ops (ofL L) K := VU h k
theorem VT : ∀ {n : Nat} {fps : List (List Nat × List Nat)} {ops : List LO} {L : PL},stepD tb cns n fps ops L = some (fps',os,L') -> evD P tb cns fps' os (ofL L') K -> evD P tb cns fps ops (ofL L) K
  | 0,_,_,_,h,k => by cases h; exact k
  | n + 1,[],_,_,h,_ => by cases h
  | n + 1,_ :: _,[],_,h,_ => by cases h
  | n + 1,(R,W) :: fps,o :: ops,L,h,k => by
    rw [stepD] at h
    obtain ⟨h1,h⟩ := BL h
    obtain ⟨L1,h2,h⟩ := Aa h
    simp only [Bool.and_eq_true,List.all_eq_true] at h1
    refine evd (by unfold Y8; rw [Bool.and_eq_true,Bool.and_eq_true]; exact ⟨List.all_eq_true.2 fun p hp => WU (h1.1 p hp),List.all_eq_true.2 fun p hp => Zm (h1.2.1 p hp),List.all_eq_true.2 fun p hp => X6 (h1.2.2.1 p hp)⟩) (by unfold adB bxS; rw [Bool.and_eq_true]; exact ⟨List.all_eq_true.2 fun p hp => WU (h1.2.2.2.1 p hp),List.all_eq_true.2 fun p hp => cD (h1.2.2.2.2 p hp)⟩) ?_
    exact SB (K := fun σ' => evD P tb cns fps ops σ' K) h2 (VT h k)
theorem sd (n : Nat) (h : stepD tb cns n fps ops L = some (fps',os,L')) (k : evD P tb cns fps' os (ofL L') K) : evD P tb cns fps ops (ofL L) K := VT h k
theorem bJ {q : Nat} {c b : Bool} (e : c = b) (h : lk L q = some (.bool c)) : ofL ((q,.bool b) :: L) = ofL L := by
  subst e
  rw [FC,<- Dx h,V0]
theorem qg (q : Nat) {c b : Bool} (e : c = b) (h : lk L q = some (.bool c)) (k : evS P tb cns ops (ofL ((q,.bool b) :: L)) K) : evS P tb cns ops (ofL L) K := by rw [bJ e h] at k; exact k
theorem qgd (q : Nat) {c b : Bool} (e : c = b) (h : lk L q = some (.bool c)) (k : evD P tb cns fps ops (ofL ((q,.bool b) :: L)) K) : evD P tb cns fps ops (ofL L) K := by rw [bJ e h] at k; exact k
end
section
variable {P : Program} {nt : Nat} {bx : List Nat} {l : LC} {Q : Exit -> PS -> Prop} {tb : Tb} {cns : List Nat} {L L' : PL}
theorem qk (ss : List Nat) (h : Ws L ss = some L') (k : LS P nt bx l (ofL L') Q) : LS P nt bx l (ofL L) Q := Qi L' (Vn h).1 (Vn h).2 k
theorem qi (args : List V) (hr : okR (Wp 0 args) = true) (k : LS P nt bx l (ofL (Wp 0 args)) Q) : LS P nt bx l (Ja args) Q := Qi _ (bD args 0 0) hr k
end
section
variable {P : Program} {tb : Tb} {cns : List Nat} {L : PL} {K : PS -> Prop} {d s t : Nat} {x y z : Operand}
def mb (L : PL) (x : Operand) : Option V := Ad (opO L x) fun c => ifB c.isArg (some c)
theorem TX {c : V} (h : mb L x = some c) : opV (ofL L) x = c ∧ c.isArg = true := by
  obtain ⟨c',h1,h⟩ := Aa h
  obtain ⟨h2,h⟩ := BL h
  cases h
  exact ⟨Cb h1,h2⟩
theorem qa {c a : V} {xs : List Operand} {as : List V} (h1 : mb L x = some c) (h2 : er c = a) (h3 : erA (ofL L) xs as) : erA (ofL L) (x :: xs) (a :: as) := era (by rw [(TX h1).1]; exact (TX h1).2) (by rw [(TX h1).1]; exact h2) h3
def pH : V -> Bool
  | .int .. | .bool .. | .str .. | .fn .. => true
  | _ => false
theorem qs {a : V} {xs : List Operand} {as : List V} (h1 : Ad (mb L x) (fun c => ifB (pH c) (some c)) = some a) (h3 : erA (ofL L) xs as) : erA (ofL L) (x :: xs) (a :: as) := by
  obtain ⟨c,h2,h⟩ := Aa h1
  obtain ⟨h4,h⟩ := BL h
  cases h
  exact qa h2 (by cases a <;> first | rfl | cases h4) h3
theorem cnF (hc : cns.contains d = false) : (some d).toList.any cns.contains = false := by simpa using hc
theorem qC {f : FuncId} {args : Array Operand} {ts : Array TypeId} {as : List V} {r : V} (he : erA (ofL L) args.toList as) (hs : Ai P f as r) (k : K (ofL ((d,r) :: L))) (hc : cns.contains d = false := by rfl) : evO P tb cns ⟨some d,.call { callee := .value (.func f),args := args,argTypes := ts },t,none⟩ (ofL L) K := cU (cnF hc) he hs k
def iaO (tb : Tb) (L : PL) (s : TypeId) (x y : Operand) : Option (Nat × List V × Int × Nat) := Ad (opO L x) fun a => Ad (KT a) fun p => Ad (opO L y) fun b => match b with
  | .int _ i => Ad (tb s) fun dd => match dd with
    | .sl _ es _ _ => some (p.1,p.2,i,es)
    | _ => none
  | _ => none
theorem qI {α : Type} {f : α -> List V} {l : List α} {i : Int} {e : α} {n : Nat} (h : iaO tb L s x y = some (l.length,l.flatMap f,i,n)) (hf : ∀ x,(f x).length = n) (hi : AO l i = some e) (k : K (ofL ((d,.adr (f e ++ (l.drop (i.toNat + 1)).flatMap f) 0) :: L))) : evO P tb cns ⟨some d,.indexAddr s x y,t,none⟩ (ofL L) K := by
  obtain ⟨a,h1,h⟩ := Aa h
  obtain ⟨p,h2,h⟩ := Aa h
  obtain ⟨b,h3,h⟩ := Aa h
  obtain ⟨g1,g2,g3⟩ := AD hi
  cases b with
  | int kk j =>
    obtain ⟨dd,h4,h⟩ := Aa h
    cases dd with
    | sl e' es eb ez =>
      simp only [Option.some.injEq,Prod.mk.injEq] at h
      obtain ⟨e1,e2,e3,e4⟩ := h
      subst e3 e4
      refine mn (n := l.length) (cs := l.flatMap f) (by rw [Cb h1,h2]; cases p; cases e1; cases e2; rfl) (Cb h3) h4 ⟨g1,g2⟩ ?_
      have := (Xr hf g3 0).resolve_right (by omega)
      rw [Nat.add_zero,List.drop_zero] at this
      rw [this]; exact k
    | _ => cases h
  | _ => cases h
def pZ (tb : Tb) (L : PL) (s : TypeId) (x y : Operand) : Option (List UInt8 × Int) := Ad (opO L x) fun a => match a with
  | .str u => Ad (opO L y) fun b => match b with
    | .int _ i => ifB (Te (tb s)) (some (u,i))
    | _ => none
  | _ => none
theorem qX {u : List UInt8} {i : Int} {b : UInt8} (h : pZ tb L s x y = some (u,i)) (hi : AO u i = some b) (k : K (ofL ((d,.int .u8 b.toNat) :: L))) : evO P tb cns ⟨some d,.index s x y,t,none⟩ (ofL L) K := by
  obtain ⟨a,h1,h⟩ := Aa h
  cases a with
  | str u' =>
    obtain ⟨b',h3,h⟩ := Aa h
    cases b' with
    | int kk j =>
      obtain ⟨h4,h⟩ := BL h
      cases h
      exact gr (Cb h1) (Cb h3) (Tf h4) hi k
    | _ => cases h
  | _ => cases h
def bdO (dflt : Int) (L : PL) : Option Operand -> Option Int
  | none => some dflt
  | some x => Ad (opO L x) OS
theorem bh {dflt i : Int} {lo : Option Operand} (h : bdO dflt L lo = some i) : TZ dflt (lo.map (opV (ofL L))) = some i := by
  cases lo with
  | none => exact h
  | some x =>
    obtain ⟨c,h1,h⟩ := Aa (show Ad (opO L x) _ = _ from h)
    simp only [Option.map_some,TZ,Cb h1]; exact h
def ma : V -> Bool
  | .arg .. => true
  | _ => false
theorem ao {a : V} (h : ma a = false) (n : Nat) (cs : List V) : Tu a n cs = .dat n cs := by cases a <;> first | rfl | cases h
def pa (tb : Tb) (L : PL) (b : Bool) (s : TypeId) (x : Operand) (lo hi : Option Operand) : Option (Nat × List V × Nat × Int × Int) := Ad (opO L x) fun a => ifB (ma a == b) <| Ad (KT a) fun p => Ad (tb s) fun dd => match dd with
  | .sl _ es _ _ => Ad (bdO 0 L lo) fun l => Ad (bdO p.1 L hi) fun h => some (p.1,p.2,es,l,h)
  | _ => none
theorem pU {α : Type} {f : α -> List V} {lst : List α} {n : Nat} {lo hi : Option Operand} {l h : Int} {b : Bool} (hh : pa tb L b s x lo hi = some (lst.length,lst.flatMap f,n,l,h)) (hf : ∀ x,(f x).length = n) (hb : 0 <= l ∧ l <= h ∧ h <= lst.length) (k : ∀ a,ma a = b -> K (ofL ((d,Tu a (Ey lst l h).length ((Ey lst l h).flatMap f)) :: L))) : evO P tb cns ⟨some d,.slice s x lo hi none,t,none⟩ (ofL L) K := by
  obtain ⟨a,h1,hh⟩ := Aa hh
  obtain ⟨hk,hh⟩ := BL hh
  obtain ⟨p,h2,hh⟩ := Aa hh
  obtain ⟨dd,h3,hh⟩ := Aa hh
  cases dd with
  | sl e es eb ez =>
    obtain ⟨l',h5,hh⟩ := Aa hh
    obtain ⟨r',h6,hh⟩ := Aa hh
    simp only [Option.some.injEq,Prod.mk.injEq] at hh
    obtain ⟨e1,e2,e3,e4,e5⟩ := hh
    subst e3 e4 e5
    rw [e1] at h6
    exact gu (lst := lst) (f := f) (by rw [Cb h1,h2]; cases p; cases e1; cases e2; rfl) h3 hf (bh h5) (bh h6) hb (by rw [Cb h1]; exact k a (eq_of_beq hk))
  | _ => cases hh
theorem qSl {α : Type} {f : α -> List V} {lst : List α} {n : Nat} {lo hi : Option Operand} {l h : Int} (hh : pa tb L false s x lo hi = some (lst.length,lst.flatMap f,n,l,h)) (hf : ∀ x,(f x).length = n) (hb : 0 <= l ∧ l <= h ∧ h <= lst.length) (k : K (ofL ((d,.dat (Ey lst l h).length ((Ey lst l h).flatMap f)) :: L))) : evO P tb cns ⟨some d,.slice s x lo hi none,t,none⟩ (ofL L) K :=
  pU hh hf hb fun a ha => by rw [ao ha]; exact k
def pm (L : PL) (x y : Operand) : Option (V × V) := Ad (opO L x) fun a => Ad (opO L y) fun b => some (a,b)
theorem qB {op : BinOp} {ta tc : TypeId} {c1 c2 v : V} (h : pm L x y = some (c1,c2)) (hc : Zo (tb ta) op c1 c2) (hv : frc (cA op c1 c2) = some v) (k : K (ofL ((d,v) :: L))) : evO P tb cns ⟨some d,.binOp op ta x y tc,t,none⟩ (ofL L) K := by
  obtain ⟨a,h1,h⟩ := Aa h
  obtain ⟨b,h2,h⟩ := Aa h
  cases h
  rw [Ge hv] at k
  exact gk (Cb h1) (Cb h2) hc k
theorem qCs {a b e : TypeId} {es eb : Nat} {ez : List V} {w : List UInt8} {z' : Int} {l : List Int} (hx : Ad (opO L x) KT = some (l.length,l.flatMap cu8)) (h1 : tb a = some (.sl e es eb ez)) (h2 : tb b = some (.sc (.str w))) (h3 : tb e = some (.sc (.int .u8 z'))) (k : K (ofL ((d,.str (bytesOf l)) :: L))) : evO P tb cns ⟨some d,.convert a b x,t,none⟩ (ofL L) K := by
  obtain ⟨c,g1,g2⟩ := Aa hx
  exact gl (by rw [Cb g1]; exact g2) h1 h2 h3 k
def l9 (tb : Tb) (L : PL) (s : TypeId) (p q : Nat) : Option (Nat × List V × Nat × Nat × List V × V × PL) := Ad (lk L p) fun a => match a with
  | .own e n cs => Ad (O5 L (.tmp p) (.own e n cs)) fun L1 => Ad (lk L1 q) fun c => Ad (KT c) fun r => Ad (O5 L1 (.tmp q) c) fun L2 => Ad (tb s) fun dd => match dd with
    | .sl e' es _ _ => ifB (Nat.beq e e' && c.isVal) (some (n,cs,es,r.1,r.2,c,L2))
    | _ => none
  | _ => none
theorem qA {α : Type} (f : α -> List V) (l m : List α) {es p q : Nat} {e : TypeId} {ds : List V} {c : V} {L2 : PL} (h : l9 tb L s p q = some (l.length,l.flatMap f,es,m.length,ds,c,L2)) (he : lk L p = some (.own e l.length (l.flatMap f))) (hd : ds.length = m.length * es) (ha : UX c = m.flatMap f) (hl : l.length + m.length <= lim)
    (k : K (ofL ((d,.own e (l ++ m).length ((l ++ m).flatMap f)) :: L2))) : evO P tb cns ⟨some d,.call { callee := .builtin .append,args := #[.tmp p,.tmp q],argTypes := #[s,s] },t,none⟩ (ofL L) K := by
  obtain ⟨a,h1,h⟩ := Aa h
  rw [he] at h1
  cases h1
  obtain ⟨L1,h2,h⟩ := Aa h
  obtain ⟨c',h3,h⟩ := Aa h
  obtain ⟨r,h4,h⟩ := Aa h
  obtain ⟨L3,h5,h⟩ := Aa h
  obtain ⟨dd,h6,h⟩ := Aa h
  cases dd with
  | sl e' es' eb ez =>
    dsimp only at h
    obtain ⟨h7,h⟩ := BL h
    simp only [Bool.and_eq_true] at h7
    have e1 := Nat.eq_of_beq_eq_true h7.1
    have h := Option.some.inj h
    simp only [Prod.mk.injEq] at h
    obtain ⟨_,_,e2,e3,e4,e5,e6⟩ := h
    subst e1 e2 e5 e6
    have t1 := Iv (x := .tmp p) he h2
    have t2 := Iv (x := .tmp q) h3 h5
    simp only [Be,Dx he] at t1
    have t1' : ofL L1 = upd (ofL L) p (.dat l.length (l.flatMap f)) := t1
    refine gg (f := f) (l := l) (m := m) (c2 := c') (ds := ds) (Dx he) (by rw [<- t1']; exact Dx h3) (by rw [h4]; cases r; cases e3; cases e4; rfl) hd h6 ha hl h7.2 ?_
    rw [FC,t2] at k
    simp only [Be,Dx h3,t1'] at k
    exact k
  | _ => cases h
theorem qAd {α : Type} (f g h' : α -> List V) (l m : List α) {es p q : Nat} {e : TypeId} {ds : List V} {c : V} {L2 : PL} (h : l9 tb L s p q = some (l.length,l.flatMap f,es,m.length,ds,c,L2)) (he : lk L p = some (.own e l.length (l.flatMap f))) (hd : ds.length = m.length * es) (ha : UX c = m.flatMap h') (hl : l.length + m.length <= lim) (hf : ∀ x,(f x).map dg1 = g x) (hh : ∀ x,(h' x).map dg1 = g x) (hfc : ∀ x,(f x).all V.Ds = true) (hhc : ∀ x,(h' x).all V.Ds = true)
    (k : K (ofL ((d,.own e (l ++ m).length ((l ++ m).flatMap g)) :: L2))) : evO P tb cns ⟨some d,.call { callee := .builtin .append,args := #[.tmp p,.tmp q],argTypes := #[s,s] },t,none⟩ (ofL L) K := by
  obtain ⟨a,h1,h⟩ := Aa h
  rw [he] at h1
  cases h1
  obtain ⟨L1,h2,h⟩ := Aa h
  obtain ⟨c',h3,h⟩ := Aa h
  obtain ⟨r,h4,h⟩ := Aa h
  obtain ⟨L3,h5,h⟩ := Aa h
  obtain ⟨dd,h6,h⟩ := Aa h
  cases dd with
  | sl e' es' eb ez =>
    dsimp only at h
    obtain ⟨h7,h⟩ := BL h
    simp only [Bool.and_eq_true] at h7
    have e1 := Nat.eq_of_beq_eq_true h7.1
    have h := Option.some.inj h
    simp only [Prod.mk.injEq] at h
    obtain ⟨_,_,e2,e3,e4,e5,e6⟩ := h
    subst e1 e2 e5 e6
    have t1 := Iv (x := .tmp p) he h2
    have t2 := Iv (x := .tmp q) h3 h5
    simp only [Be,Dx he] at t1
    have t1' : ofL L1 = upd (ofL L) p (.dat l.length (l.flatMap f)) := t1
    refine cT (f := f) (g := g) (h := h') (l := l) (m := m) (c2 := c') (ds := ds) (Dx he) (by rw [<- t1']; exact Dx h3) (by rw [h4]; cases r; cases e3; cases e4; rfl) hd h6 ha hl h7.2 hf hh hfc hhc ?_
    rw [FC,t2] at k
    simp only [Be,Dx h3,t1'] at k
    exact k
  | _ => cases h
def bsO (tb : Tb) (L : PL) (s : TypeId) (n : Nat) (ps : List (Nat × Operand)) : Option (TypeId × Nat × PL × List V) := Ad (tb s) fun dd => match dd with
  | .sl e es _ ez => ifB (Nat.ble (n * es) 16777216) (Ad (Xq (fun i => some (i * es,es)) ps L (QA ez es n)) fun q => Ad (bu q.2) fun cs => some (e,es,q.1,cs))
  | _ => none
theorem qBs {α : Type} (f : α -> List V) (l : List α) {e : TypeId} {es n : Nat} {ps : Array (Nat × Operand)} {L2 : PL} {cs : List V} (h : bsO tb L s n ps.toList = some (e,es,L2,cs)) (hn : l.length = n) (hc : cs = l.flatMap f) (hf : ∀ x,(f x).length = es) (k : K (ofL ((d,.own e l.length (l.flatMap f)) :: L2))) : evO P tb cns ⟨some d,.buildSlice s n ps,t,none⟩ (ofL L) K := by
  obtain ⟨dd,h1,h⟩ := Aa h
  cases dd with
  | sl e' es' eb ez =>
    obtain ⟨h2,h⟩ := BL h
    obtain ⟨q,h3,h⟩ := Aa h
    obtain ⟨cs',h4,h⟩ := Aa h
    cases h
    have e1 := RL h4
    subst hc
    simp only [evO,QG,bj,h1,RJ (L' := q.1) (cs' := q.2) h3]
    rw [<- e1]
    refine ⟨nb h2,?_,?_⟩
    · rw [Av hf,hn]
    · rw [hn] at k; exact k
  | _ => cases h
def mkO (tb : Tb) (L : PL) (s : TypeId) (x y : Operand) : Option (Int × Int × TypeId × Nat × List V) := Ad (opO L x) fun a => Ad (opO L y) fun b => match a,b with
  | .int _ n,.int _ m => Ad (tb s) fun dd => match dd with
    | .sl e es _ ez => some (n,m,e,es,ez)
    | _ => none
  | _,_ => none
theorem jV {n m : Int} {e : TypeId} {es : Nat} {ez : List V} (h : mkO tb L s x y = some (n,m,e,es,ez)) : ∃ k0 k1 eb,opV (ofL L) x = .int k0 n ∧ opV (ofL L) y = .int k1 m ∧ tb s = some (.sl e es eb ez) := by
  obtain ⟨a,h1,h⟩ := Aa h
  obtain ⟨b,h2,h⟩ := Aa h
  cases a <;> first | (cases h; done) | skip
  cases b <;> first | (cases h; done) | skip
  obtain ⟨dd,h3,h⟩ := Aa h
  cases dd <;> first | (cases h; done) | skip
  cases h
  exact ⟨_,_,_,Cb h1,Cb h2,h3⟩
theorem qMu {α : Type} (f : α -> List V) (z : α) {e : TypeId} {es : Nat} {ez : List V} {n : Int} (hc : cns.contains d = true) (h : mkO tb L s x y = some (n,n,e,es,ez)) (hz : f z = ez) (hez : ez.length = es) (hn : 0 <= n ∧ n.toNat <= lim) (hb : nbL L d = true) (k : K (ofL ((d,.uni e (List.replicate n.toNat z).length ((List.replicate n.toNat z).flatMap f)) :: L))) : evO P tb cns ⟨some d,.makeSlice s x y,t,none⟩ (ofL L) K := by
  obtain ⟨k0,k1,eb,h1,h2,h3⟩ := jV h
  exact gq hc h1 h2 h3 hz hez hn (Vv hb) k
def XO (D : List Nat) (L : PL) : PL := L.map fun p => (p.1,if D.contains p.1 = true then .undef else match Dj p.2 with
  | some b => if D.contains b = true then .undef else p.2
  | none => p.2)
theorem Pg (D : List Nat) : ∀ L : PL,ofL (XO D L) = kill D (ofL L)
  | [] => by funext s; simp [XO,ofL,kill,Dj]
  | (q,c) :: L => by
    have ih := Pg D L
    funext s
    show ofL ((q,_) :: XO D L) s = _
    rw [FC]
    by_cases e : s = q
    · subst e
      rw [upd_same]
      unfold kill
      rw [FC,upd_same]
      rfl
    · rw [upd_ne _ _ e,ih]
      unfold kill
      rw [FC,upd_ne _ _ e]
def frL : PL -> Option PL
  | [] => some []
  | (s,.undef) :: L => Ad (frL L) fun L' => some ((s,.undef) :: L')
  | (s,c) :: L => Ad (frc c) fun c => Ad (frL L) fun L' => some ((s,c) :: L')
theorem Vd : ∀ {L L' : PL},frL L = some L' -> L' = L
  | [],_,h => by cases h; rfl
  | (s,c) :: L,L',h => by
    unfold frL at h
    split at h
    · rename_i he; cases he
    · rename_i he; cases he
      obtain ⟨L1,h1,h⟩ := Aa h
      cases h; rw [Vd h1]
    · rename_i he; cases he
      obtain ⟨c1,h0,h⟩ := Aa h
      obtain ⟨L1,h1,h⟩ := Aa h
      cases h; rw [Vd h1,Ge h0]
theorem qTu {e : TypeId} {n : Nat} {cs : List V} {L1 : PL} (hc : cns.contains d = true) (h : lk L s = some (.uni e n cs)) (hk : frL (XO [s] L) = some L1) (k : K (ofL ((d,.own e n cs) :: (s,.dat n cs) :: L1))) : evO P tb cns ⟨some d,.move (.tmp s),t,none⟩ (ofL L) K := by
  rw [Vd hk] at k
  refine cW hc (Dx h) ?_
  rw [<- Pg]; exact k
theorem qAu {e : TypeId} {n : Nat} {cs : List V} {L1 : PL} (hc : cns.contains d = true) (h : lk L s = some (.uni e n cs)) (hk : frL (XO [s] L) = some L1) (hn : nbL L1 d = true) (k : K (ofL ((d,.uni e n cs) :: L1))) : evO P tb cns ⟨some d,.assign (.tmp s),t,none⟩ (ofL L) K := by
  have e1 := Vd hk
  subst e1
  refine gj hc (Dx h) (by rw [<- Pg]; exact Vv hn) ?_
  rw [<- Pg]; exact k
def iuO (tb : Tb) (L : PL) (s : TypeId) (x y : Operand) : Option (Nat × Nat × Int × Nat) := Ad (opO L x) fun a => match a with
  | .same b => Ad (lk L b) fun u => match u with
    | .uni _ n _ => Ad (opO L y) fun c => match c with
      | .int _ i => Ad (tb s) fun dd => match dd with
        | .sl _ es _ _ => some (b,n,i,es)
        | _ => none
      | _ => none
    | _ => none
  | _ => none
theorem qIu {b n es : Nat} {i : Int} (h : iuO tb L s x y = some (b,n,i,es)) (hi : 0 <= i ∧ i < n) (k : K (ofL ((d,.cref b (i.toNat * es)) :: L))) : evO P tb cns ⟨some d,.indexAddr s x y,t,none⟩ (ofL L) K := by
  obtain ⟨a,h1,h⟩ := Aa h
  cases a <;> first | (cases h; done) | skip
  obtain ⟨u,h2,h⟩ := Aa h
  cases u <;> first | (cases h; done) | skip
  obtain ⟨c,h3,h⟩ := Aa h
  cases c <;> first | (cases h; done) | skip
  obtain ⟨dd,h4,h⟩ := Aa h
  cases dd <;> first | (cases h; done) | skip
  cases h
  exact gn (Cb h1) (Dx h2) (Cb h3) h4 hi k
theorem qLu {α : Type} {f : α -> List V} {n b m : Nat} (off : Nat) {l : List α} {i : Int} {e : α} {et : TypeId} {dd : TyD} {v : V} (hc : cns.contains d = false) (hx : adO L x = some (.cref b (i.toNat * n + off))) (hb : lk L b = some (.uni et m (l.flatMap f))) (hf : ∀ x,(f x).length = n) (hi : AO l i = some e) (ht : tb s = some dd) (ho : Nat.ble (off + dd.size) n = true) (hg : frc (getCells dd (f e) off) = some v) (k : K (ofL ((d,v) :: L))) : evO P tb cns ⟨some d,.load s x,t,none⟩ (ofL L) K := by
  rw [Ge hg] at k
  exact gp hc (Nf hx) (Dx hb) hf hi ht (nb ho) rfl k
theorem qSu {ty : TypeId} {α : Type} {f : α -> List V} {n b : Nat} {l : List α} {i : Int} (e : α) {et : TypeId} {dd : TyD} {c1 : V} {L1 : PL} (hx : adO L x = some (.cref b (i.toNat * n))) (hb : lk L b = some (.uni et l.length (l.flatMap f))) (hf : ∀ x,(f x).length = n) (hi : 0 <= i ∧ i < l.length) (hy : opO L y = some c1) (ht : tb t = some dd) (ha : c1.isArg = true) (hn : n = dd.size) (hc : FO c1 = f e) (hL : O5 L y c1 = some L1)
    (k : K (ofL ((b,.uni et (Jr l i e).length ((Jr l i e).flatMap f)) :: L1))) : evO P tb cns ⟨none,.store t x y,ty,none⟩ (ofL L) K := by
  refine gv (Nf hx) (Dx hb) hf hi (Cb hy) ht ha hn hc ?_
  rw [<- Iv hy hL]; exact k
end
section
variable {P : Program} {nt : Nat} {bx : List Nat} {Q : Exit -> PS -> Prop} {L : PL}
theorem qT {s : Nat} {x y : LC} {b : Bool} (hb : lk L s = some (.bool b)) (e : b = true) (h : LS P nt bx x (ofL L) Q) : LS P nt bx (.cond (.tmp s) x y) (ofL L) Q := n8 (Dx hb) e h
theorem qF {s : Nat} {x y : LC} {b : Bool} (hb : lk L s = some (.bool b)) (e : b = false) (h : LS P nt bx y (ofL L) Q) : LS P nt bx (.cond (.tmp s) x y) (ofL L) Q := n7 (Dx hb) e h
end
section
variable {P : Program} {tb : Tb} {cns : List Nat} {L : PL} {K : PS -> Prop} {d s t : Nat} {x : Operand}
end
def YQ (tb : Tb) (cns : List Nat) : List LO -> PL -> Option PL
  | [],L => some L
  | o :: os,L => Ad (J3 tb cns o L) fun L' => YQ tb cns os L'
def lB (tb : Tb) : Nat -> LC -> PL -> Option (LC × PL)
  | 0,l,L => some (l,L)
  | n + 1,.seq (.rgn cns ops) y,L => Ad (YQ tb cns ops L) fun L' => lB tb n y L'
  | _ + 1,_,_ => none
section
variable {P : Program} {nt : Nat} {bx : List Nat} {Q : Exit -> PS -> Prop} {tb : Tb}
theorem VS {cns : List Nat} {K : PS -> Prop} : ∀ {ops : List LO} {L L' : PL},YQ tb cns ops L = some L' -> K (ofL L') -> evS P tb cns ops (ofL L) K
  | [],_,_,h,k => by cases h; exact k
  | o :: ops,L,_,h,k => by
    rw [YQ] at h
    obtain ⟨L1,h1,h⟩ := Aa h
    exact SB (K := fun σ' => evS P tb cns ops σ' K) h1 (VS h k)
theorem Yx (htb : JY P tb) : ∀ {n : Nat} {l l' : LC} {L L' : PL},lB tb n l L = some (l',L') -> LS P nt bx l' (ofL L') Q -> LS P nt bx l (ofL L) Q
  | 0,_,_,_,_,h,k => by cases h; exact k
  | n + 1,l,l',L,L',h,k => by
    cases l with
    | seq a y =>
      cases a with
      | rgn cns ops =>
        obtain ⟨L1,h1,h⟩ := Aa (show Ad (YQ tb cns ops L) (fun L' => lB tb n y L') = _ from h)
        exact dy htb (VS h1 (Yx htb h k))
      | _ => exact absurd (show none = some _ from h) (by simp)
    | _ => exact absurd (show none = some _ from h) (by simp)
abbrev Jn (K : PS -> Prop) (L : PL) : Prop := ∀ σ : PS,okK σ L -> K σ
theorem lh {l : LC} {σ : PS} {L : PL} (hk : okK σ L) (h2 : okR L = true) (h : LS P nt bx l (ofL L) Q) : LS P nt bx l σ Q := Qi L hk h2 h
end
def pM (cns : List Nat) (o : LO) : Bool := match o.op,o.dst with
  | .move _,some d => !cns.contains d
  | _,_ => false
def fpO (base : List (Nat × Nat)) (cns : List Nat) (o : LO) : List Nat × List Nat := match spc cns o with
  | true => ([],o.dst.toList)
  | false =>
  let R := Rh o.op ++ match o.op with
    | .alloc _ => o.dst.toList
    | .call _ => o.dst.toList.filter cns.contains
    | _ => []
  let R := R ++ match pM cns o with
    | true => []
    | false => base.filterMap fun p => if R.contains p.1 then some p.2 else none
  (R ++ gT o,o.dst.toList ++ if simple cns o = true then base.filterMap (fun p => if (adC o.op).contains p.1 then some p.2 else none) else R)
def cnO : List (Nat × List Nat) -> Nat -> List Nat
  | [],_ => []
  | (i,c) :: r,id => match Nat.beq id i with
    | true => c
    | false => cnO r id
def SP (base : List (Nat × Nat)) (cn : List (Nat × List Nat)) : Code -> LC
  | .skip => .skip
  | .region id ops d => match d with
    | true => .drw (cnO cn id) ((ops.toList.map (Ba ops)).map (fpO base (cnO cn id))) (ops.toList.map edg) (ops.toList.map (Ba ops))
    | false => .rgn (cnO cn id) (ops.toList.map (Ba ops))
  | .seq a b => .seq (SP base cn a) (SP base cn b)
  | .cond c a b => .cond c (SP base cn a) (SP base cn b)
  | .block id a => .blk id (SP base cn a)
  | .loop a => .loop [] (SP base cn a)
  | .exit id => .exit id
  | .ret => .ret
  | _ => .bad
theorem MR (base : List (Nat × Nat)) (cn : List (Nat × List Nat)) : ∀ c : Code,EZ c = erC (SP base cn c)
  | .skip => rfl
  | .region id ops d => by cases d <;> simp [EZ,SP,erC]
  | .seq a b => by rw [EZ,SP,erC,MR base cn a,MR base cn b]
  | .cond c a b => by rw [EZ,SP,erC,MR base cn a,MR base cn b]
  | .block id a => by rw [EZ,SP,erC,MR base cn a]
  | .loop a => by rw [EZ,SP,erC,MR base cn a]
  | .exit id => rfl
  | .ret => rfl
  | .rangeFunc .. => rfl
  | .scope .. => rfl
  | .label .. => rfl
  | .goto .. => rfl
  | .refuse .. => rfl
def cdF (f : Func) : Code := match f.body with
  | some c => c
  | none => .skip
def oP (bx : List Nat) (base : List (Nat × Nat)) (cn : List (Nat × List Nat)) (fn : Func) : Bool :=
  fn.body.isSome && ((fn.name == "runtime.NumGoroutine") == false && (okC fn.ntmps bx (cdF fn) && (decide (fn.results.toList.map Lu).Nodup && okL bx (SP base cn (cdF fn)))))
theorem AE {P : Program} {f : Nat} {fn : Func} {bx : List Nat} {base : List (Nat × Nat)} {cn : List (Nat × List Nat)} (h1 : P.funcs[f]? = some fn) (h2 : oP bx base cn fn = true) : Lit P f fn.ntmps bx fn.results.toList (SP base cn (cdF fn)) := by
  simp only [oP,Bool.and_eq_true] at h2
  obtain ⟨h2,h3,h4,h5,h6⟩ := h2
  obtain ⟨c,hc⟩ := Option.isSome_iff_exists.1 h2
  refine ⟨⟨fn,c,h1,hc,eq_of_beq h3,rfl,rfl,?_,?_⟩,of_decide_eq_true h5,h6⟩
  · rw [<- MR]; unfold cdF; rw [hc]
  · unfold cdF at h4; rw [hc] at h4; exact h4
end Go.Proofs.YtpcbnmcfplioeaaGreat
namespace Go.Proofs.YtpcbnmcfplioeaaGreat
open Go.RowKit
theorem DN {S O : Type} {body : (S -> Option O) -> S -> Option O} {out : O} (f : Nat -> S) : ∀ (n : Nat),(∀ k,k < n -> ∀ rec,body rec (f k) = rec (f (k + 1))) -> (∀ rec,body rec (f n) = some out) -> ∀ m,n < m -> Ao body m (f 0) = some out := by
  have key : ∀ (d n : Nat),(∀ k,k < n -> ∀ rec,body rec (f k) = rec (f (k + 1))) -> (∀ rec,body rec (f n) = some out) -> ∀ k,k + d = n -> ∀ m,d < m -> Ao body m (f k) = some out := by
    intro d n h1 h2
    induction d with
    | zero =>
      intro k hk m hm
      cases m with
      | zero => omega
      | succ m => rw [show k = n by omega]; exact h2 _
    | succ d ih =>
      intro k hk m hm
      cases m with
      | zero => omega
      | succ m =>
        show body (Ao body m) (f k) = some out
        rw [h1 k (by omega)]
        exact ih (k + 1) (by omega) m (by omega)
  intro n h1 h2 m hm
  exact key n n h1 h2 0 (by omega) m hm
theorem wrap_in {n : Int} (h : -9223372036854775808 <= n ∧ n <= 9223372036854775807) : IntKind.i64.wrap n = n := by
  unfold IntKind.wrap
  simp [IntKind.signed,IntKind.bits] <;> omega
theorem AS {k n : Nat} (h : k < n) (hn : n <= maxLen) : IntKind.i64.wrap ((k : Int) + 1) = ((k + 1 : Nat) : Int) := by
  rw [wrap_in (by unfold maxLen at hn; omega)]; simp
theorem Pd {α : Type} (l : List α) (k : Nat) : AO l (k : Int) = l[k]? := by simp [AO]
theorem Am {α : Type} {l : List α} {k : Nat} (h : k < l.length) : AO l (k : Int) = some l[k] := by rw [Pd,List.getElem?_eq_getElem h]
theorem HP {n : Nat} (h : n <= lim) : n < fz := by unfold lim at h; unfold fz; omega
theorem OA {α β : Type} {a : List α} {g : α -> Option β} {h : α -> β} {B : (List β × Int -> Option (List β)) -> List β × Int -> Option (List β)} {z : β}
    (hB : ∀ rec y i,B rec (y,i) = cond (decide (i < (List.length a : Int))) (Ad (AO a i) fun e => Ad (g e) fun v => Ad (AO y i) fun _ => rec (Jr y i v,IntKind.i64.wrap (i + 1))) (some y))
    (hg : ∀ e ∈ a,g e = some (h e)) (hl : a.length <= lim) : Ao B fz (List.replicate (Int.toNat (List.length a : Int)) z,0) = some (a.map h) := by
  have := DN (body := B) (out := a.map h) (fun k => ((a.take k).map h ++ List.replicate (a.length - k) z,(k : Int))) a.length (fun k hk rec => ?_) (fun rec => ?_) fz (HP hl)
  · simpa using this
  · rw [hB]
    have h1 : (decide ((k : Int) < (List.length a : Int))) = true := by simp; omega
    have hlen : ((a.take k).map h ++ List.replicate (a.length - k) z).length = a.length := by simp; omega
    rw [h1,cond_true,Am hk]
    simp only [Ad]
    rw [hg _ (List.getElem_mem hk)]
    simp only
    rw [Am (by rw [hlen]; exact hk)]
    simp only
    congr 1
    rw [AS hk (AA hl)]
    congr 1
    unfold Jr
    rw [Int.toNat_natCast]
    have h2 : ((a.take k).map h).length = k := by simp; omega
    rw [List.set_append_right _ _ (by omega),h2,Nat.sub_self,List.take_succ_eq_append_getElem hk,List.map_append]
    have h3 : a.length - k = (a.length - (k + 1)) + 1 := by omega
    rw [h3,List.replicate_succ]
    simp
  · rw [hB]
    simp
theorem N5 {α : Type} {a : List α} {g : α -> α -> Option Bool} {B : (Int -> Option (Sum Unit Bool)) -> Int -> Option (Sum Unit Bool)}
    (hB : ∀ rec i,B rec i = cond (decide (i < (List.length a : Int))) (Ad (AO a i) fun x => Ad (AO a i) fun y => Ad (g x y) fun v => cond (!v) (some (.inr false)) (rec (IntKind.i64.wrap (i + 1)))) (some (.inl ())))
    (hg : ∀ e ∈ a,g e e = some true) (hl : a.length <= lim) : Ao B fz 0 = some (.inl ()) := by
  refine DN (body := B) (fun k => (k : Int)) a.length (fun k hk rec => ?_) (fun rec => ?_) fz (HP hl)
  · rw [hB]
    have h1 : (decide ((k : Int) < (List.length a : Int))) = true := by simp; omega
    rw [h1,cond_true,Am hk]
    simp only [Ad,hg _ (List.getElem_mem hk),Bool.not_true,cond_false]
    rw [AS hk (AA hl)]
  · rw [hB]; simp
theorem Ap {α : Type} {p : Prop} [Decidable p] {x : Option α} (h : p) : chk p x = x := by unfold chk; rw [if_pos h]
theorem MV {n : Nat} (h : n <= lim) : (0 : Int) <= (n : Int) ∧ Int.toNat (n : Int) <= lim := by rw [Int.toNat_natCast]; exact ⟨by omega,h⟩
theorem CH {n : Nat} (h : n <= 1048576) : n <= lim := by unfold lim; omega
def SzR (left : Int) (s : Option Int) (sm : Prop) (t : Nat) : Prop := ∃ v,s = some v ∧ (v < 0 ∨ (v + (t : Int) <= left ∧ 0 <= v ∧ sm))
def tzL {α : Type} (f : α -> Nat) : List α -> Nat
  | [] => 0
  | x :: l => f x + tzL f l
theorem YZ {α : Type} {f : α -> Nat} : ∀ (a b : List α),tzL f (a ++ b) = tzL f a + tzL f b
  | [],b => by simp [tzL]
  | x :: a,b => by rw [List.cons_append,tzL,tzL,YZ a b]; omega
theorem kM {n : Nat} {left : Int} (h : 0 <= left ∧ left <= 1048576) (hn : n <= maxLen) : ∃ v,IntKind.i64.wrap (left - (n : Int)) = v ∧ (v < 0 ∨ (v + (n : Int) <= left ∧ 0 <= v ∧ n <= 1048576)) := by
  rw [wrap_in (by unfold maxLen at hn; omega)]
  refine ⟨_,rfl,?_⟩
  by_cases hl : left - (n : Int) < 0
  · exact .inl hl
  · exact .inr ⟨by omega,by omega,by omega⟩
theorem kL {n : Nat} {left : Int} (h : 0 <= left ∧ left <= 1048576) (hn : n <= maxLen) : SzR left (cond (decide ((IntKind.i64.wrap (left - (n : Int))) < 0)) (some (-1)) (some (IntKind.i64.wrap (left - (n : Int))))) (n <= 1048576) n := by
  obtain ⟨v,e,p⟩ := kM h hn
  rw [e]
  rcases p with p | p
  · rw [decide_eq_true p]; exact ⟨-1,rfl,.inl (by omega)⟩
  · rw [decide_eq_false (by omega : ¬ v < 0)]; exact ⟨v,rfl,.inr p⟩
theorem Qu {α : Type} {a : List α} {g : α -> Int -> Option Int} {sm : α -> Prop} {tz : α -> Nat} {B : (Int × Int -> Option (Sum Int Int)) -> Int × Int -> Option (Sum Int Int)}
    (hB : ∀ rec l i,B rec (l,i) = cond (decide (i < (List.length a : Int))) (Ad (AO a i) fun e => Ad (g e l) fun v => cond (decide (v < 0)) (some (.inr (-1))) (rec (v,IntKind.i64.wrap (i + 1)))) (some (.inl l)))
    (hg : ∀ e ∈ a,∀ left,0 <= left ∧ left <= 1048576 -> SzR left (g e left) (sm e) (tz e)) {left : Int} (h : 0 <= left ∧ left <= 1048576) (hn : a.length <= maxLen) :
    SzR left (cond (decide ((IntKind.i64.wrap (left - (List.length a : Int))) < 0)) (some (-1)) (Ad (Ao B fz (IntKind.i64.wrap (left - (List.length a : Int)),0)) fun o => (match o with
      | .inl z => some z
      | .inr r => some r))) (a.length <= 1048576 ∧ ∀ e ∈ a,sm e) (a.length + tzL tz a) := by
  obtain ⟨v,e,p⟩ := kM h hn
  rw [e]
  rcases p with p | ⟨p1,p2,p3⟩
  · rw [decide_eq_true p]; exact ⟨-1,rfl,.inl (by omega)⟩
  rw [decide_eq_false (by omega : ¬ v < 0),cond_false]
  have key : ∀ d k l,k + d = a.length -> 0 <= l ∧ l + (tzL tz (a.take k) : Int) <= v -> (∀ e ∈ a.take k,sm e) -> ∀ m,d < m -> ∃ o,Ao B m (l,(k : Int)) = some o ∧ (o = .inr (-1) ∨ ∃ z,o = .inl z ∧ 0 <= z ∧ z + (tzL tz a : Int) <= v ∧ ∀ e ∈ a,sm e) := by
    intro d
    induction d with
    | zero =>
      intro k l hk hl hs m hm
      cases m with
      | zero => omega
      | succ m =>
        rw [List.take_of_length_le (by omega)] at hl
        refine ⟨.inl l,?_,.inr ⟨l,rfl,hl.1,hl.2,?_⟩⟩
        · show B (Ao B m) (l,(k : Int)) = _
          rw [hB]
          rw [decide_eq_false (by omega : ¬ (k : Int) < (List.length a : Int))]
          rfl
        · rw [List.take_of_length_le (by omega)] at hs; exact hs
    | succ d ih =>
      intro k l hk hl hs m hm
      cases m with
      | zero => omega
      | succ m =>
        have hlt : k < a.length := by omega
        obtain ⟨u,e1,q⟩ := hg a[k] (List.getElem_mem hlt) l (by omega)
        have hstep : Ao B (m + 1) (l,(k : Int)) = cond (decide (u < 0)) (some (.inr (-1))) (Ao B m (u,((k + 1 : Nat) : Int))) := by
          show B (Ao B m) (l,(k : Int)) = _
          rw [hB,decide_eq_true (by omega : (k : Int) < (List.length a : Int)),cond_true,Am hlt]
          simp only [Ad,e1,AS hlt hn]
        rcases q with q | ⟨q1,q2,q3⟩
        · exact ⟨.inr (-1),by rw [hstep,decide_eq_true q]; rfl,.inl rfl⟩
        · rw [hstep,decide_eq_false (by omega : ¬ u < 0),cond_false]
          have ht : tzL tz (a.take (k + 1)) = tzL tz (a.take k) + tz a[k] := by rw [List.take_succ_eq_append_getElem hlt,YZ]; simp [tzL]
          exact ih (k + 1) u (by omega) (by rw [ht]; omega) (fun e he => by
            rw [List.take_succ_eq_append_getElem hlt] at he
            rcases List.mem_append.1 he with he | he
            · exact hs e he
            · rw [List.mem_singleton.1 he]; exact q3) m (by omega)
  obtain ⟨o,e2,q⟩ := key a.length 0 v (by omega) (by simp [tzL]; omega) (by simp) fz (HP (CH p3))
  have e3 : Ao B fz (v,0) = some o := by simpa using e2
  rw [e3]
  rcases q with rfl | ⟨z,rfl,q1,q2,q3⟩
  · exact ⟨-1,rfl,.inl (by omega)⟩
  · exact ⟨z,rfl,.inr ⟨by omega,q1,p3,q3⟩⟩
end Go.Proofs.YtpcbnmcfplioeaaGreat
namespace Go.Proofs.YtpcbnmcfplioeaaGreat
open Go.RowKit
set_option linter.unusedVariables false
def bT (u : Value) : V -> V
  | .own _ n cs => .pin u n (erL cs)
  | c => c
def mN : V -> Bool
  | .own _ _ _ => true
  | _ => false
def fk : V -> Bool
  | .int _ _ => true
  | .bool _ => true
  | .str _ => true
  | _ => false
def IOQ : List V -> Bool
  | [] => false
  | c :: cs => (mN c && cs.all fk) || (fk c && IOQ cs)
def Kv : List V -> V
  | [] => .undef
  | c :: cs => match c with
    | .own e n ds => .own e n ds
    | _ => Kv cs
section
variable {P : Program} {w : World} {St : Nat -> Nat -> Prop}
theorem eL {c : V} {v : Value} {b : List Nat} (hs : fk c = true) (h : Ow P w St c v b) : b = [] := by
  cases c <;> first | exact h.1 | cases hs
theorem YC {c : V} (u : Value) (hs : fk c = true) : bT u c = c := by cases c <;> first | rfl | cases hs
theorem YD : ∀ {cs : List V} {us : List Value} {b : List Nat},cs.all fk = true -> Ay P w St cs us b -> b = []
  | [],_,_,_,h => h.2
  | c :: cs,_,_,hs,⟨u,us',b1,b2,e1,e2,hc,h1,h2⟩ => by
    simp only [List.all_cons,Bool.and_eq_true] at hs
    rw [e2,eL hs.1 h1,YD hs.2 h2]; rfl
theorem UJ : ∀ {cs : List V} (u : Value),cs.all fk = true -> cs.map (bT u) = cs
  | [],_,_ => rfl
  | c :: cs,u,hs => by
    simp only [List.all_cons,Bool.and_eq_true] at hs
    rw [List.map_cons,YC u hs.1,UJ u hs.2]
theorem ee {e : TypeId} {n : Nat} {cs : List V} {u : Value} {b : List Nat} (h : Ow P w St (.own e n cs) u b) : Ow P w St (.pin u n (erL cs)) u [] := by
  have := Rd.erase _ (Ow.rd (.own e n cs) h rfl)
  exact ⟨rfl,rfl,this⟩
theorem YX : ∀ {ds : List V},IOQ ds = true -> ∃ e n cs,Kv ds = .own e n cs
  | [],h => by cases h
  | c :: cs,h => by
    simp only [IOQ,Bool.or_eq_true,Bool.and_eq_true] at h
    rcases h with ⟨h1,h2⟩ | ⟨h1,h2⟩
    · cases c <;> first | exact ⟨_,_,_,rfl⟩ | cases h1
    · obtain ⟨e,n,cs',e1⟩ := YX h2
      cases c <;> first | (cases h1; done) | exact ⟨e,n,cs',e1⟩
theorem To : ∀ {ds : List V} {xs : List Value} {b : List Nat},IOQ ds = true -> Ay P w St ds xs b -> ∃ u,Ow P w St (Kv ds) u b ∧ Ay P w St (ds.map (bT u)) xs []
  | [],_,_,h,_ => by cases h
  | c :: cs,_,_,h,⟨u,us',b1,b2,e1,e2,hc,h1,h2⟩ => by
    simp only [IOQ,Bool.or_eq_true,Bool.and_eq_true] at h
    rcases h with ⟨g1,g2⟩ | ⟨g1,g2⟩
    · have hb := YD g2 h2
      subst hb
      rw [List.append_nil] at e2
      subst e2
      cases c <;> first | (cases g1; done) | skip
      refine ⟨u,h1,?_⟩
      rw [List.map_cons,UJ u g2]
      exact ⟨u,us',[],[],e1,rfl,rfl,ee h1,h2⟩
    · have hb := eL g1 h1
      subst hb
      rw [List.nil_append] at e2
      subst e2
      obtain ⟨u',h3,h4⟩ := To g2 h2
      refine ⟨u',?_,?_⟩
      · cases c <;> first | (cases g1; done) | exact h3
      · rw [List.map_cons,YC u' g1]
        exact ⟨u,us',[],[],e1,rfl,hc,h1,h4⟩
theorem Vz : ∀ {ds : List V} {xs : List Value} {b0 b : List Nat} {u : Value},IOQ ds = true -> Ay P w St (ds.map (bT u)) xs b0 -> Ow P w St (Kv ds) u b -> Ay P w St ds xs b
  | [],_,_,_,_,h,_,_ => by cases h
  | c :: cs,_,_,b,u,h,⟨u',us',b1,b2,e1,e2,hc,h1,h2⟩,ht => by
    simp only [IOQ,Bool.or_eq_true,Bool.and_eq_true] at h
    rcases h with ⟨g1,g2⟩ | ⟨g1,g2⟩
    · cases c <;> first | (cases g1; done) | skip
      have hu : u' = u := h1.2.1
      subst hu
      change Ay P w St (cs.map (bT u')) us' b2 at h2
      rw [UJ u' g2] at h2
      have hb := YD g2 h2
      subst hb
      exact ⟨u',us',b,[],e1,by simp,rfl,ht,h2⟩
    · have ht' : Ow P w St (Kv cs) u b := by cases c <;> first | (cases g1; done) | exact ht
      change Ow P w St (bT u c) u' b1 at h1
      rw [YC u g1] at h1
      have hb := eL g1 h1
      subst hb
      have h3 := Vz g2 h2 ht'
      have hcc : c.Ds = true := by cases c <;> first | rfl | cases g1
      exact ⟨u',us',[],b,e1,by simp,hcc,h1,h3⟩
end
def AC {α : Type} (k : Nat) : List α -> List (Nat × α)
  | [] => []
  | x :: l => (k,x) :: AC (k + 1) l
def pE {α : Type} (f : α -> List V) (U : Nat -> Value) (p : Nat × α) : List V := (f p.2).map (bT (U p.1))
def mE {α : Type} (f : α -> List V) (U : Nat -> Value) : Nat × α ⊕ α -> List V
  | .inl p => pE f U p
  | .inr x => f x
def getM {α : Type} : Nat × α ⊕ α -> α
  | .inl p => p.2
  | .inr x => x
def okJ {α : Type} [BEq α] (l : List α) : List (Nat × α ⊕ α) -> List Nat -> Bool
  | [],_ => true
  | .inl p :: L,seen => (match l[p.1]? with
    | some x => x == p.2
    | none => false) && !seen.contains p.1 && okJ l L (p.1 :: seen)
  | .inr _ :: L,seen => okJ l L seen
section
variable {P : Program} {w : World} {St : Nat -> Nat -> Prop} {α : Type} {f : α -> List V}
theorem VB (h1 : ∀ x,IOQ (f x) = true) : ∀ (l : List α) (k : Nat) {xs : List Value} {bs : List Nat},Ay P w St (l.flatMap f) xs bs ->
    ∃ us : List Value,us.length = l.length ∧ Ay P w St (l.map fun x => Kv (f x)) us bs ∧ ∀ U : Nat -> Value,(∀ i,i < l.length -> U (k + i) = us.getD i undef) -> Ay P w St ((AC k l).flatMap (pE f U)) xs []
  | [],k,_,_,h => ⟨[],rfl,⟨rfl,h.2⟩,fun U _ => ⟨h.1,rfl⟩⟩
  | x :: l,k,xs,bs,h => by
    rw [List.flatMap_cons] at h
    obtain ⟨xs1,xs2,b1,b2,rfl,rfl,r1,r2⟩ := h.app
    obtain ⟨u,h3,h4⟩ := To (h1 x) r1
    obtain ⟨us,hl,h5,h6⟩ := VB h1 l (k + 1) r2
    obtain ⟨e,n,cs,et⟩ := YX (h1 x)
    refine ⟨u :: us,by simp [hl],⟨u,us,b1,b2,rfl,rfl,by show (Kv (f x)).Ds = true; rw [et]; rfl,h3,h5⟩,fun U hU => ?_⟩
    have hu : U k = u := by have := hU 0 (by simp); simpa using this
    rw [AC,List.flatMap_cons]
    have := Ay.join (b1 := []) (b2 := []) (show Ay P w St (pE f U (k,x)) xs1 [] by unfold pE; rw [hu]; exact h4) (h6 U (fun i hi => by
      have := hU (i + 1) (by simp; omega)
      have e : k + 1 + i = k + (i + 1) := by omega
      rw [e,this]; simp))
    exact this
theorem TB : ∀ {cs : List V} {us : List Value} {bs : List Nat},Ay P w St cs us bs -> bs.Nodup -> ∃ β : Nat -> List Nat,(∀ i c u,cs[i]? = some c -> us[i]? = some u -> Ow P w St c u (β i)) ∧ (∀ i,∀ g ∈ β i,g ∈ bs) ∧ (∀ i,(β i).Nodup) ∧ ∀ i j,i ≠ j -> ∀ g ∈ β i,g ∉ β j
  | [],_,_,h,_ => ⟨fun _ => [],by simp,by simp,fun _ => List.nodup_nil,by simp⟩
  | c :: cs,_,_,⟨u,us',b1,b2,e1,e2,hc,h1,h2⟩,hn => by
    subst e1 e2
    obtain ⟨n1,n2,n3⟩ := List.nodup_append.1 hn
    obtain ⟨β,k1,k2,k3,k4⟩ := TB h2 n2
    refine ⟨fun i => match i with | 0 => b1 | i + 1 => β i,?_,?_,?_,?_⟩
    · intro i c' u' hc' hu'
      cases i with
      | zero => simp only [List.getElem?_cons_zero,Option.some.injEq] at hc' hu'; subst hc' hu'; exact h1
      | succ i => exact k1 i c' u' (by simpa using hc') (by simpa using hu')
    · intro i g hg
      cases i with
      | zero => exact List.mem_append_left _ hg
      | succ i => exact List.mem_append_right _ (k2 i g hg)
    · intro i
      cases i with
      | zero => exact n1
      | succ i => exact k3 i
    · intro i j hij g hg hg'
      cases i with
      | zero =>
        cases j with
        | zero => exact hij rfl
        | succ j => exact n3 g hg g (k2 j g hg') rfl
      | succ i =>
        cases j with
        | zero => exact n3 g hg' g (k2 i g hg) rfl
        | succ j => exact k4 i j (by omega) g hg hg'
theorem d7 [BEq α] [LawfulBEq α] (h1 : ∀ x,IOQ (f x) = true) {l : List α} {us : List Value} {bs : List Nat} (ht : Ay P w St (l.map fun x => Kv (f x)) us bs) (hn : bs.Nodup) {U : Nat -> Value} (hU : ∀ i,i < l.length -> U i = us.getD i undef) :
    ∀ (L : List (Nat × α ⊕ α)) {xs : List Value} {b0 : List Nat},okJ l L [] = true -> Ay P w St (L.flatMap (mE f U)) xs b0 -> b0.Nodup -> (∀ g ∈ b0,g ∉ bs) -> ∃ b',Ay P w St ((L.map getM).flatMap f) xs b' ∧ b'.Nodup ∧ ∀ g ∈ b',g ∈ b0 ∨ g ∈ bs := by
  obtain ⟨β,k1,k2,k3,k4⟩ := TB ht hn
  have hlen := ht.length
  rw [List.length_map] at hlen
  have key : ∀ (L : List (Nat × α ⊕ α)) (seen : List Nat) {xs : List Value} {b0 : List Nat},okJ l L seen = true -> Ay P w St (L.flatMap (mE f U)) xs b0 -> b0.Nodup -> (∀ g ∈ b0,g ∉ bs) ->
      ∃ b',Ay P w St ((L.map getM).flatMap f) xs b' ∧ b'.Nodup ∧ (∀ g ∈ b',g ∈ b0 ∨ g ∈ bs) ∧ ∀ i ∈ seen,∀ g ∈ β i,g ∉ b' := by
    intro L
    induction L with
    | nil =>
      intro seen xs b0 _ h hnb hd
      exact ⟨[],⟨h.1,rfl⟩,List.nodup_nil,by simp,by simp⟩
    | cons p L ih =>
      intro seen xs b0 hok h hnb hd
      rw [List.flatMap_cons] at h
      obtain ⟨xs1,xs2,b1,b2,rfl,rfl,r1,r2⟩ := h.app
      obtain ⟨n1,n2,n3⟩ := List.nodup_append.1 hnb
      cases p with
      | inr x =>
        simp only [okJ] at hok
        obtain ⟨b',q1,q2,q3,q4⟩ := ih seen hok r2 n2 (fun g hg => hd g (List.mem_append_right _ hg))
        refine ⟨b1 ++ b',?_,?_,?_,?_⟩
        · rw [List.map_cons,List.flatMap_cons]; exact Ay.join r1 q1
        · refine List.nodup_append.2 ⟨n1,q2,fun a ha b hb e => ?_⟩
          subst e
          rcases q3 a hb with h | h
          · exact n3 a ha a h rfl
          · exact hd a (List.mem_append_left _ ha) h
        · intro g hg
          rcases List.mem_append.1 hg with hg | hg
          · exact .inl (List.mem_append_left _ hg)
          · exact (q3 g hg).imp (List.mem_append_right _) id
        · intro i hi g hg hm
          rcases List.mem_append.1 hm with hm | hm
          · exact hd g (List.mem_append_left _ hm) (k2 i g hg)
          · exact q4 i hi g hg hm
      | inl p =>
        simp only [okJ,Bool.and_eq_true,Bool.not_eq_true'] at hok
        obtain ⟨⟨g1,g2⟩,g3⟩ := hok
        obtain ⟨b',q1,q2,q3,q4⟩ := ih (p.1 :: seen) g3 r2 n2 (fun g hg => hd g (List.mem_append_right _ hg))
        have hp : l[p.1]? = some p.2 := by
          split at g1
          · rename_i x hx; rw [hx]; simpa using g1
          · cases g1
        have hpl : p.1 < l.length := by
          rcases Nat.lt_or_ge p.1 l.length with h | h
          · exact h
          · rw [List.getElem?_eq_none h] at hp; cases hp
        have hus : us[p.1]? = some (U p.1) := by
          rw [hU p.1 hpl]
          have : p.1 < us.length := by omega
          simp [this]
        have htok := k1 p.1 _ _ (by rw [List.getElem?_map,hp]; rfl) hus
        have r1' : Ay P w St (f p.2) xs1 (β p.1) := Vz (h1 p.2) (show Ay P w St ((f p.2).map (bT (U p.1))) xs1 b1 from r1) htok
        refine ⟨β p.1 ++ b',?_,?_,?_,?_⟩
        · rw [List.map_cons,List.flatMap_cons]; exact Ay.join r1' q1
        · refine List.nodup_append.2 ⟨k3 p.1,q2,fun a ha b hb e => ?_⟩
          subst e
          exact q4 p.1 (by simp) a ha hb
        · intro g hg
          rcases List.mem_append.1 hg with hg | hg
          · exact .inr (k2 p.1 g hg)
          · exact (q3 g hg).imp (List.mem_append_right _) id
        · intro i hi g hg hm
          rcases List.mem_append.1 hm with hm | hm
          · have hne : i ≠ p.1 := fun e => by
              subst e
              have : seen.contains p.1 = true := by simpa using hi
              rw [this] at g2; cases g2
            exact k4 i p.1 hne g hg hm
          · exact q4 i (by simp [hi]) g hg hm
  intro L xs b0 hok h hnb hd
  obtain ⟨b',q1,q2,q3,_⟩ := key L [] hok h hnb hd
  exact ⟨b',q1,q2,q3⟩
end
theorem zpE {α : Type} {f : α -> List V} {n : Nat} (h : ∀ x,(f x).length = n) {U : Nat -> Value} (p : Nat × α) : (pE f U p).length = n := by unfold pE; rw [List.length_map,h]
theorem erP {α : Type} {f g : α -> List V} (h : ∀ x,erL (f x) = g x) (hg : ∀ x,erL (g x) = g x) (l : List α) {u : Value} : er (.pin u l.length (erL (l.flatMap f))) = .dat l.length (l.flatMap g) := by rw [er,Mg h,Mg hg]
theorem d9 {α : Type} {f : α -> List V} {U : Nat -> Value} {e : TypeId} {x : List (Nat × α)} : V.own e x.length (x.flatMap (pE f U)) = .own e (x.map (Sum.inl : Nat × α -> Nat × α ⊕ α)).length ((x.map (Sum.inl : Nat × α -> Nat × α ⊕ α)).flatMap (mE f U)) := by
  rw [List.length_map,List.flatMap_map]; rfl
theorem R8 {α : Type} {f : α -> List V} {U : Nat -> Value} (l : List (Nat × α)) : (l.flatMap (pE f U)).map dg1 = l.flatMap (pE f U) := by
  rw [List.map_flatMap]
  congr 1
  funext p
  unfold pE
  rw [List.map_map]
  apply List.map_congr_left
  intro c _
  cases c <;> rfl
section
variable {P : Program} {α : Type} {f : α -> List V}
theorem Ix : ∀ (k : Nat) (l : List α),(AC k l).length = l.length
  | _,[] => rfl
  | k,x :: l => by rw [AC,List.length_cons,List.length_cons,Ix (k + 1) l]
def SR (P : Program) (f : α -> List V) (c : V) (l : List α) (k : Nat) (c' : (Nat -> Value) -> V) : Prop :=
  ∀ w St t v bs,AZ P w St t c v bs -> bs.Nodup -> ∃ us b1 b2,us.length = l.length ∧ Ay P w St (l.map fun x => Kv (f x)) us b2 ∧ (b1 ++ b2).Nodup ∧ (∀ g ∈ b1 ++ b2,g ∈ bs) ∧ ∀ U : Nat -> Value,(∀ i,i < l.length -> U (k + i) = us.getD i undef) -> AZ P w St t (c' U) v b1
theorem OL (h1 : ∀ x,IOQ (f x) = true) {e : TypeId} {l : List α} {k : Nat} {w : World} {St : Nat -> Nat -> Prop} {v : Value} {bs : List Nat} (h : Ow P w St (.own e l.length (l.flatMap f)) v bs) (hn : bs.Nodup) :
    ∃ us b1 b2,us.length = l.length ∧ Ay P w St (l.map fun x => Kv (f x)) us b2 ∧ bs = b1 ++ b2 ∧ ∀ U : Nat -> Value,(∀ i,i < l.length -> U (k + i) = us.getD i undef) -> Ow P w St (.own e (AC k l).length ((AC k l).flatMap (pE f U))) v b1 := by
  obtain ⟨hl,xs,bs',hx,hr,hb,hst,h0⟩ := h
  obtain ⟨us,hul,ht,hp⟩ := VB h1 l k hr
  refine ⟨us,v.ownBlock.toList,bs',hul,ht,hb,fun U hU => ?_⟩
  rw [Ix]
  refine ⟨hl,xs,[],hx,hp U hU,by simp,hst,fun hz => ?_⟩
  have : l = [] := List.eq_nil_of_length_eq_zero hz
  subst this; rfl
theorem TJ (h1 : ∀ x,IOQ (f x) = true) {e : TypeId} {l : List α} {k : Nat} : SR P f (.own e l.length (l.flatMap f)) l k (fun U => .own e (AC k l).length ((AC k l).flatMap (pE f U))) := by
  intro w St t v bs h hn
  obtain ⟨us,b1,b2,q1,q2,q3,q4⟩ := OL (k := k) h1 (show Ow P w St _ v bs from h) hn
  exact ⟨us,b1,b2,q1,q2,by rw [<- q3]; exact hn,fun g hg => by rw [q3]; exact hg,fun U hU => q4 U hU⟩
theorem YM (h1 : ∀ x,IOQ (f x) = true) {e : TypeId} {l : List α} {k : Nat} {A C : List V} : SR P f (.box (A ++ .own e l.length (l.flatMap f) :: C)) l k (fun U => .box (A ++ .own e (AC k l).length ((AC k l).flatMap (pE f U)) :: C)) := by
  rintro w St t v bs ⟨g,T,bs',arr,e1,e2,hr,rfl,hst⟩ hn
  obtain ⟨us1,us2,p1,p2,eu,eb,r1,r2⟩ := hr.app
  obtain ⟨u,us3,p3,p4,eu2,eb2,hc,r3,r4⟩ := r2
  subst eb eb2
  have hn1 := List.nodup_cons.1 hn
  have hn2 := List.nodup_append.1 hn1.2
  have hn3 := List.nodup_append.1 hn2.2.1
  obtain ⟨us,b1,b2,q1,q2,q3,q4⟩ := OL (k := k) h1 r3 hn3.1
  subst q3
  have hn4 := List.nodup_append.1 hn3.1
  refine ⟨us,g :: (p1 ++ (b1 ++ p4)),b2,q1,q2,?_,?_,fun U hU => ⟨g,T,p1 ++ (b1 ++ p4),arr,e1,e2,?_,rfl,hst⟩⟩
  · rw [List.cons_append,List.nodup_cons]
    refine ⟨fun hm => hn1.1 ?_,?_⟩
    · simp only [List.mem_append] at hm ⊢
      rcases hm with (h | h | h) | h
      · exact .inl h
      · exact .inr (.inl (.inl h))
      · exact .inr (.inr h)
      · exact .inr (.inl (.inr h))
    · refine List.nodup_append.2 ⟨List.nodup_append.2 ⟨hn2.1,List.nodup_append.2 ⟨hn4.1,hn3.2.1,fun a ha b hb => hn3.2.2 a (List.mem_append_left _ ha) b hb⟩,fun a ha b hb => hn2.2.2 a ha b (by simp only [List.mem_append] at hb ⊢; rcases hb with h | h; exact .inl (.inl h); exact .inr h)⟩,hn4.2.1,fun a ha b hb e => ?_⟩
      subst e
      simp only [List.mem_append] at ha
      rcases ha with h | h | h
      · exact hn2.2.2 a h a (by simp [hb]) rfl
      · exact hn4.2.2 a h a hb rfl
      · exact hn3.2.2 a (List.mem_append_right _ hb) a h rfl
  · intro x hx
    simp only [List.mem_append,List.mem_cons] at hx ⊢
    rcases hx with (h | h | h | h) | h
    · exact .inl h
    · exact .inr (.inl h)
    · exact .inr (.inr (.inl (.inl h)))
    · exact .inr (.inr (.inr h))
    · exact .inr (.inr (.inl (.inr h)))
  · rw [eu,eu2]
    exact Ay.join r1 ⟨u,us3,b1,p4,rfl,rfl,rfl,q4 U hU,r4⟩
def Ze (P : Program) [BEq α] (f : α -> List V) (U : Nat -> Value) (c : V) (L : List (Nat × α ⊕ α)) (c' : V) : Prop :=
  ∀ w St t v b1 (l : List α) us bs,AZ P w St t c v b1 -> Ay P w St (l.map fun x => Kv (f x)) us bs -> bs.Nodup -> (∀ i,i < l.length -> U i = us.getD i undef) -> okJ l L [] = true -> b1.Nodup -> (∀ g ∈ b1,g ∉ bs) -> ∃ b',AZ P w St t c' v b' ∧ b'.Nodup ∧ ∀ g ∈ b',g ∈ b1 ∨ g ∈ bs
theorem Qm [BEq α] [LawfulBEq α] (h1 : ∀ x,IOQ (f x) = true) {e : TypeId} {L : List (Nat × α ⊕ α)} {U : Nat -> Value} {w : World} {St : Nat -> Nat -> Prop} {v : Value} {b1 : List Nat} {l : List α} {us : List Value} {bs : List Nat} (h : Ow P w St (.own e L.length (L.flatMap (mE f U))) v b1) (ht : Ay P w St (l.map fun x => Kv (f x)) us bs) (hn : bs.Nodup)
    (hU : ∀ i,i < l.length -> U i = us.getD i undef) (hok : okJ l L [] = true) (hb1 : b1.Nodup) (hd : ∀ g ∈ b1,g ∉ bs) : ∃ b',Ow P w St (.own e (L.map getM).length ((L.map getM).flatMap f)) v b' ∧ b'.Nodup ∧ ∀ g ∈ b',g ∈ b1 ∨ g ∈ bs := by
  obtain ⟨hl,xs,bs',hx,hr,rfl,hst,h0⟩ := h
  obtain ⟨n1,n2,n3⟩ := List.nodup_append.1 hb1
  obtain ⟨b',q1,q2,q3⟩ := d7 h1 ht hn hU L hok hr n2 (fun g hg => hd g (List.mem_append_right _ hg))
  refine ⟨v.ownBlock.toList ++ b',⟨by rw [List.length_map]; exact hl,xs,b',by rw [List.length_map]; exact hx,q1,rfl,by rw [List.length_map]; exact hst,fun hz => ?_⟩,?_,?_⟩
  · rw [List.length_map] at hz
    have : L = [] := List.eq_nil_of_length_eq_zero hz
    subst this; rfl
  · refine List.nodup_append.2 ⟨n1,q2,fun a ha b hb e => ?_⟩
    subst e
    rcases q3 a hb with h | h
    · exact n3 a ha a h rfl
    · exact hd a (List.mem_append_left _ ha) h
  · intro g hg
    rcases List.mem_append.1 hg with hg | hg
    · exact .inl (List.mem_append_left _ hg)
    · exact (q3 g hg).imp (List.mem_append_right _) id
theorem ZX [BEq α] [LawfulBEq α] (h1 : ∀ x,IOQ (f x) = true) {e : TypeId} {L : List (Nat × α ⊕ α)} {U : Nat -> Value} : Ze P f U (.own e L.length (L.flatMap (mE f U))) L (.own e (L.map getM).length ((L.map getM).flatMap f)) := by
  intro w St t v b1 l us bs h ht hn hU hok hb1 hd
  obtain ⟨b',q1,q2,q3⟩ := Qm h1 (show Ow P w St _ v b1 from h) ht hn hU hok hb1 hd
  exact ⟨b',q1,q2,q3⟩
theorem ZW [BEq α] [LawfulBEq α] (h1 : ∀ x,IOQ (f x) = true) {e : TypeId} {L : List (Nat × α ⊕ α)} {U : Nat -> Value} {A C : List V} : Ze P f U (.box (A ++ .own e L.length (L.flatMap (mE f U)) :: C)) L (.box (A ++ .own e (L.map getM).length ((L.map getM).flatMap f) :: C)) := by
  rintro w St t v b1 l us bs ⟨g,T,bs',arr,e1,e2,hr,rfl,hst⟩ ht hn hU hok hb1 hd
  obtain ⟨us1,us2,p1,p2,eu,eb,r1,r2⟩ := hr.app
  obtain ⟨u,us3,p3,p4,eu2,eb2,hc,r3,r4⟩ := r2
  subst eb eb2
  have hn1 := List.nodup_cons.1 hb1
  have hn2 := List.nodup_append.1 hn1.2
  have hn3 := List.nodup_append.1 hn2.2.1
  obtain ⟨b',q1,q2,q3⟩ := Qm h1 r3 ht hn hU hok hn3.1 (fun x hx => hd x (by simp [hx]))
  have hgb : g ∉ bs := hd g (by simp)
  refine ⟨g :: (p1 ++ (b' ++ p4)),⟨g,T,p1 ++ (b' ++ p4),arr,e1,e2,by rw [eu,eu2]; exact Ay.join r1 ⟨u,us3,b',p4,rfl,rfl,rfl,q1,r4⟩,rfl,hst⟩,?_,?_⟩
  · rw [List.nodup_cons]
    refine ⟨fun hm => ?_,List.nodup_append.2 ⟨hn2.1,List.nodup_append.2 ⟨q2,hn3.2.1,fun a ha b hb e => ?_⟩,fun a ha b hb e => ?_⟩⟩
    · simp only [List.mem_append] at hm
      rcases hm with h | h | h
      · exact hn1.1 (by simp [h])
      · rcases q3 g h with h | h
        · exact hn1.1 (by simp [h])
        · exact hgb h
      · exact hn1.1 (by simp [h])
    · subst e
      rcases q3 a ha with h | h
      · exact hn3.2.2 a h a hb rfl
      · exact hd a (by simp [hb]) h
    · subst e
      rcases List.mem_append.1 hb with hb | hb
      · rcases q3 a hb with h | h
        · exact hn2.2.2 a ha a (by simp [h]) rfl
        · exact hd a (by simp [ha]) h
      · exact hn2.2.2 a ha a (by simp [hb]) rfl
  · intro x hx
    simp only [List.mem_cons,List.mem_append] at hx ⊢
    rcases hx with h | h | h | h
    · exact .inl (.inl h)
    · exact .inl (.inr (.inl h))
    · rcases q3 x h with h | h
      · exact .inl (.inr (.inr (.inl h)))
      · exact .inr h
    · exact .inl (.inr (.inr (.inr h)))
end
section
variable {P : Program} {nt : Nat} {base : Bs} {bx : List Nat} {St St0 : Nat -> Nat -> Prop} {B : Nat -> List Nat} {hand : List Nat} {σ : PS} {a : Act} {w w0 : World}
theorem IB (h : HSim P nt bx base St B [] σ a w) {s q : Nat} (hsq : s ≠ q) (hq : DA (σ q) = none) {c cq : V} {b1 b2 : List Nat} (hc : AZ P w St (tm a) c (tm a s) b1) (hcq : AZ P w St (tm a) cq (tm a q) b2) (hn : (b1 ++ b2).Nodup) (hsub : ∀ g ∈ b1 ++ b2,g ∈ B s ∨ g ∈ B q)
    (hb : (DA c).isSome = (DA (σ s)).isSome) (hrf : Dj c = none) (hbq : DA cq = none) (hrq : Dj cq = none) : HSim P nt bx base St (upd (upd B s b1) q b2) [] (upd (upd σ s c) q cq) a w := by
  have hsome : ∀ cs,DA c = some cs -> ∃ ds,DA (σ s) = some ds := fun cs e => by
    rw [e] at hb
    cases hx : DA (σ s) with
    | none => rw [hx] at hb; cases hb
    | some ds => exact ⟨ds,rfl⟩
  have hsome' : ∀ cs,DA (σ s) = some cs -> ∃ ds,DA c = some ds := fun cs e => by
    rw [e] at hb
    cases hx : DA c with
    | none => rw [hx] at hb; cases hb
    | some ds => exact ⟨ds,rfl⟩
  obtain ⟨n1,n2,n3⟩ := List.nodup_append.1 hn
  have hB : ∀ r,r ≠ s -> r ≠ q -> upd (upd B s b1) q b2 r = B r := fun r h1 h2 => by rw [upd_ne _ _ h2,upd_ne _ _ h1]
  have hBs : upd (upd B s b1) q b2 s = b1 := by rw [upd_ne _ _ hsq,upd_same]
  have hBq : upd (upd B s b1) q b2 q = b2 := upd_same _ _ _
  have hS : ∀ r,r ≠ s -> r ≠ q -> upd (upd σ s c) q cq r = σ r := fun r h1 h2 => by rw [upd_ne _ _ h2,upd_ne _ _ h1]
  have hSs : upd (upd σ s c) q cq s = c := by rw [upd_ne _ _ hsq,upd_same]
  have hSq : upd (upd σ s c) q cq q = cq := upd_same _ _ _
  have hin : ∀ r,(∀ g ∈ upd (upd B s b1) q b2 r,g ∈ B r ∨ ((r = s ∨ r = q) ∧ (g ∈ B s ∨ g ∈ B q))) := fun r g hg => by
    by_cases e1 : r = s
    · subst e1; rw [hBs] at hg; exact .inr ⟨.inl rfl,hsub g (List.mem_append_left _ hg)⟩
    · by_cases e2 : r = q
      · subst e2; rw [hBq] at hg; exact .inr ⟨.inr rfl,hsub g (List.mem_append_right _ hg)⟩
      · rw [hB r e1 e2] at hg; exact .inl hg
  exact
  { h with
    slot := fun r => by
      by_cases e1 : r = s
      · subst e1; rw [hSs,hBs]; exact hc
      · by_cases e2 : r = q
        · subst e2; rw [hSq,hBq]; exact hcq
        · rw [hS r e1 e2,hB r e1 e2]; exact h.slot r
    boxes := fun r cs e => by
      by_cases e1 : r = s
      · subst e1; rw [hSs] at e; obtain ⟨ds,hd⟩ := hsome cs e; exact h.boxes r ds hd
      · by_cases e2 : r = q
        · subst e2; rw [hSq,hbq] at e; cases e
        · rw [hS r e1 e2] at e; exact h.boxes r cs e
    crefs := fun r b e => by
      have hr : Dj (σ r) = some b := by
        by_cases e1 : r = s
        · subst e1; rw [hSs,hrf] at e; cases e
        · by_cases e2 : r = q
          · subst e2; rw [hSq,hrq] at e; cases e
          · rw [hS r e1 e2] at e; exact e
      obtain ⟨cs,hcs⟩ := h.crefs r b hr
      by_cases e1 : b = s
      · subst e1; rw [hSs]; exact hsome' cs hcs
      · by_cases e2 : b = q
        · subst e2; rw [hq] at hcs; cases hcs
        · rw [hS b e1 e2]; exact ⟨cs,hcs⟩
    nodup := fun r => by
      by_cases e1 : r = s
      · subst e1; rw [hBs]; exact n1
      · by_cases e2 : r = q
        · subst e2; rw [hBq]; exact n2
        · rw [hB r e1 e2]; exact h.nodup r
    apart := fun r t hrt g hg hg' => by
      by_cases e1 : (r = s ∨ r = q)
      · by_cases e2 : (t = s ∨ t = q)
        · rcases e1 with rfl | rfl <;> rcases e2 with rfl | rfl
          · exact hrt rfl
          · rw [hBs] at hg; rw [hBq] at hg'; exact n3 g hg g hg' rfl
          · rw [hBq] at hg; rw [hBs] at hg'; exact n3 g hg' g hg rfl
          · exact hrt rfl
        · have ht1 : t ≠ s := fun e => e2 (.inl e)
          have ht2 : t ≠ q := fun e => e2 (.inr e)
          rw [hB t ht1 ht2] at hg'
          rcases hin r g hg with hh | ⟨_,hh⟩
          · exact h.apart r t hrt g hh hg'
          · rcases hh with hh | hh
            · exact h.apart s t (Ne.symm ht1) g hh hg'
            · exact h.apart q t (Ne.symm ht2) g hh hg'
      · have hr1 : r ≠ s := fun e => e1 (.inl e)
        have hr2 : r ≠ q := fun e => e1 (.inr e)
        rw [hB r hr1 hr2] at hg
        rcases hin t g hg' with hh | ⟨_,hh⟩
        · exact h.apart r t hrt g hg hh
        · rcases hh with hh | hh
          · exact h.apart r s hr1 g hg hh
          · exact h.apart r q hr2 g hg hh
    hapart := fun r g hg => by simp
    range := fun r g hg => by
      rcases hin r g hg with hh | ⟨_,hh | hh⟩
      · exact h.range r g hh
      · exact h.range s g hh
      · exact h.range q g hh }
variable {Q : Exit -> PS -> Prop} {α : Type} {f : α -> List V}
theorem XV {x : LC} {s1 s2 g1 g2 : Nat} {l1 l2 : List α} {c1 c2 : V} {c1' c2' : (Nat -> Value) -> V} (hs1 : σ s1 = c1) (hs2 : σ s2 = c2) (hq1 : σ g1 = .undef) (hq2 : σ g2 = .undef) (hne : s1 ≠ s2 ∧ s1 ≠ g1 ∧ s1 ≠ g2 ∧ s2 ≠ g1 ∧ s2 ≠ g2 ∧ g1 ≠ g2) (S1 : SR P f c1 l1 0 c1') (S2 : SR P f c2 l2 l1.length c2')
    (hb1 : ∀ U,(DA (c1' U)).isSome = (DA c1).isSome) (hrf1 : ∀ U,Dj (c1' U) = none) (hb2 : ∀ U,(DA (c2' U)).isSome = (DA c2).isSome) (hrf2 : ∀ U,Dj (c2' U) = none)
    (h : ∀ (U : Nat -> Value) (us1 us2 : List Value),us1.length = l1.length -> us2.length = l2.length -> (∀ i,i < (l1 ++ l2).length -> U i = (us1 ++ us2).getD i undef) -> LS P nt bx x (upd (upd (upd (upd σ s1 (c1' U)) g1 (.gh us1 (l1.map fun x => Kv (f x)))) s2 (c2' U)) g2 (.gh us2 (l2.map fun x => Kv (f x)))) Q) : LS P nt bx x σ Q := by
  obtain ⟨n1,n2,n3,n4,n5,n6⟩ := hne
  intro cc hc hok hL base St0 w0 a w hr
  obtain ⟨St,B,hS,r1,r2,r3⟩ := hr
  have h1 := hS.slot s1
  rw [hs1] at h1
  have h2 := hS.slot s2
  rw [hs2] at h2
  obtain ⟨us1,b1,b2,q1,q2,q3,q4,q5⟩ := S1 w St (tm a) (tm a s1) (B s1) h1 (hS.nodup s1)
  obtain ⟨us2,b3,b4,p1,p2,p3,p4,p5⟩ := S2 w St (tm a) (tm a s2) (B s2) h2 (hS.nodup s2)
  have hU1 : ∀ i,i < l1.length -> (fun i => (us1 ++ us2).getD i undef) (0 + i) = us1.getD i undef := fun i hi => by
    have : i < us1.length := by omega
    simp [List.getElem?_append_left this]
  have hU2 : ∀ i,i < l2.length -> (fun i => (us1 ++ us2).getD i undef) (l1.length + i) = us2.getD i undef := fun i hi => by
    simp only [List.getD_eq_getElem?_getD]
    rw [List.getElem?_append_right (by omega),q1,Nat.add_sub_cancel_left]
  have m1 := IB hS n2 (by rw [hq1]; rfl) (q5 (fun i => (us1 ++ us2).getD i undef) hU1) (show AZ P w St (tm a) (.gh us1 (l1.map fun x => Kv (f x))) _ b2 from q2) q3 (fun g hg => .inl (q4 g hg)) (by rw [hs1]; exact hb1 _) (hrf1 _) rfl rfl
  have e1 : upd (upd σ s1 (c1' fun i => (us1 ++ us2).getD i undef)) g1 (.gh us1 (l1.map fun x => Kv (f x))) s2 = c2 := by rw [upd_ne _ _ n4,upd_ne _ _ (Ne.symm n1),hs2]
  have e2 : upd (upd σ s1 (c1' fun i => (us1 ++ us2).getD i undef)) g1 (.gh us1 (l1.map fun x => Kv (f x))) g2 = .undef := by rw [upd_ne _ _ (Ne.symm n6),upd_ne _ _ (Ne.symm n3),hq2]
  have e3 : upd (upd B s1 b1) g1 b2 s2 = B s2 := by rw [upd_ne _ _ n4,upd_ne _ _ (Ne.symm n1)]
  have m2 := IB m1 n5 (by rw [e2]; rfl) (p5 (fun i => (us1 ++ us2).getD i undef) hU2) (show AZ P w St (tm a) (.gh us2 (l2.map fun x => Kv (f x))) _ b4 from p2) p3 (fun g hg => .inl (by rw [e3]; exact p4 g hg)) (by rw [e1]; exact hb2 _) (hrf2 _) rfl rfl
  exact h (fun i => (us1 ++ us2).getD i undef) us1 us2 q1 p1 (fun i _ => rfl) cc hc hok hL base St0 w0 a w ⟨St,_,m2,r1,r2,r3⟩
theorem ac {x : LC} {g1 g2 : Nat} {us1 us2 : List Value} {cs1 cs2 : List V} (h1 : σ g1 = .gh us1 cs1) (h2 : σ g2 = .gh us2 cs2) (hne : g1 ≠ g2) (h : LS P nt bx x (upd (upd σ g1 (.gh (us1 ++ us2) (cs1 ++ cs2))) g2 .undef) Q) : LS P nt bx x σ Q := by
  intro cc hc hok hL base St0 w0 a w hr
  obtain ⟨St,B,hS,r1,r2,r3⟩ := hr
  have k1 := hS.slot g1
  rw [h1] at k1
  have k2 := hS.slot g2
  rw [h2] at k2
  refine h cc hc hok hL base St0 w0 a w ⟨St,_,IB hS hne (by rw [h2]; rfl) (show AZ P w St (tm a) (.gh (us1 ++ us2) (cs1 ++ cs2)) _ (B g1 ++ B g2) from Ay.join k1 k2) (show AZ P w St (tm a) .undef _ [] from rfl) ?_ (fun g hg => ?_) (by rw [h1]; rfl) rfl rfl rfl,r1,r2,r3⟩
  · rw [List.append_nil]
    exact List.nodup_append.2 ⟨hS.nodup g1,hS.nodup g2,fun a ha b hb e => by subst e; exact hS.apart g1 g2 hne a ha hb⟩
  · rw [List.append_nil] at hg
    exact List.mem_append.1 hg
theorem aa [BEq α] {x : LC} {s q : Nat} {l : List α} {us : List Value} {U : Nat -> Value} {L : List (Nat × α ⊕ α)} {c c' : V} {cs : List V} (hs : σ s = c) (hq : σ q = .gh us cs) (hcs : cs = l.map fun x => Kv (f x)) (hsq : s ≠ q) (J : Ze P f U c L c') (hU : ∀ i,i < l.length -> U i = us.getD i undef) (hok : okJ l L [] = true)
    (hb : (DA c').isSome = (DA c).isSome) (hrf : Dj c' = none) (h : LS P nt bx x (upd (upd σ s c') q .undef) Q) : LS P nt bx x σ Q := by
  intro cc hc hok' hL base St0 w0 a w hr
  obtain ⟨St,B,hS,r1,r2,r3⟩ := hr
  have k1 := hS.slot s
  rw [hs] at k1
  have k2 := hS.slot q
  rw [hq,hcs] at k2
  obtain ⟨b',q1,q2,q3⟩ := J w St (tm a) (tm a s) (B s) l us (B q) k1 k2 (hS.nodup q) hU hok (hS.nodup s) (fun g hg => hS.apart s q hsq g hg)
  exact h cc hc hok' hL base St0 w0 a w ⟨St,_,IB hS hsq (by rw [hq]; rfl) q1 (show AZ P w St (tm a) .undef _ [] from rfl) (by rw [List.append_nil]; exact q2) (fun g hg => by rw [List.append_nil] at hg; exact q3 g hg) (by rw [hs]; exact hb) hrf rfl rfl,r1,r2,r3⟩
end
end Go.Proofs.YtpcbnmcfplioeaaGreat
namespace Go.Proofs.YtpcbnmcfplioeaaGreat
open Go.RowKit
set_option linter.unusedVariables false
def Gh (P : Program) (nt : Nat) (bx : List Nat) (σ : PS) (K : PS -> Prop) : Prop := ∀ base St0 w0 a w,Rel P nt bx base St0 w0 σ a w -> ∃ σ',K σ' ∧ Rel P nt bx base St0 w0 σ' a w
def ghQ (P : Program) (nt : Nat) (bx : List Nat) (Q : Exit -> PS -> Prop) : Exit -> PS -> Prop
  | .normal,σ => Gh P nt bx σ (Q .normal)
  | e,σ => Q e σ
section
variable {P : Program} {nt : Nat} {bx : List Nat} {σ : PS} {K : PS -> Prop} {Q : Exit -> PS -> Prop} {x : LC}
theorem bw (h : K σ) : Gh P nt bx σ K := fun _ _ _ _ _ hr => ⟨σ,h,hr⟩
theorem Z9 (h : LS P nt bx x σ (ghQ P nt bx Q)) : LS P nt bx x σ Q := by
  intro c hc hok hL base St0 w0 a w hr
  refine wp_mono (h c hc hok hL base St0 w0 a w hr) ?_
  rintro e a' w' ⟨σ',h1,h2⟩
  cases e with
  | normal => exact h1 base St0 w0 a' w' h2
  | _ => exact ⟨σ',h1,h2⟩
theorem J1 (h : Gh P nt bx σ (fun σ' => LS P nt bx x σ' Q)) : LS P nt bx x σ Q := by
  intro c hc hok hL base St0 w0 a w hr
  obtain ⟨σ',h1,h2⟩ := h base St0 w0 a w hr
  exact h1 c hc hok hL base St0 w0 a w h2
def cm (P : Program) (c : V) (e : TypeId) (n : Nat) (cs : List V) (c' : Value -> V) : Prop :=
  ∀ w St (t : Nat -> Value) v bs,AZ P w St t c v bs -> bs.Nodup -> ∃ u b1 b2,Ow P w St (.own e n cs) u b2 ∧ (b1 ++ b2).Nodup ∧ (∀ g ∈ b1 ++ b2,g ∈ bs) ∧ AZ P w St t (c' u) v b1
theorem VE {w : World} {St : Nat -> Nat -> Prop} {e : TypeId} {n : Nat} {cs : List V} {u : Value} {b : List Nat} (h : Ow P w St (.own e n cs) u b) : Ow P w St (.tok u) u [] := ⟨rfl,rfl,(Ow.rd (.own e n cs) h rfl).oneCell⟩
theorem Yn {w : World} {St : Nat -> Nat -> Prop} {e : TypeId} {n : Nat} {cs : List V} {u : Value} {b : List Nat} (h : Ow P w St (.own e n cs) u b) (hn : 0 < n) : ∃ g m,u = .slice (some ⟨g,0,none⟩) n m := by
  obtain ⟨_,xs,bs',hrow,_⟩ := h
  rcases hrow.2 with ⟨_,h0⟩ | ⟨g,cap,cur,eg,_⟩
  · omega
  · exact ⟨g,cap,eg⟩
theorem Z5 {e : TypeId} {n : Nat} {cs : List V} : cm P (.own e n cs) e n cs .tok := fun w St t v bs h hn => ⟨v,[],bs,h,by simpa using hn,fun g hg => by simpa using hg,(VE (show Ow P w St (.own e n cs) v bs from h)).slot⟩
theorem Z4 {e : TypeId} {n : Nat} {cs A C : List V} : cm P (.box (A ++ .own e n cs :: C)) e n cs (fun u => .box (A ++ .tok u :: C)) := by
  rintro w St t v bs ⟨g,T,bs',arr,e1,e2,hr,rfl,hst⟩ hn
  obtain ⟨us1,us2,p1,p2,eu,eb,r1,r2⟩ := hr.app
  obtain ⟨u,us3,p3,p4,eu2,eb2,hc,r3,r4⟩ := r2
  subst eb eb2
  have hn1 := List.nodup_cons.1 hn
  have hn2 := List.nodup_append.1 hn1.2
  have hn3 := List.nodup_append.1 hn2.2.1
  refine ⟨u,g :: (p1 ++ p4),p3,r3,?_,?_,g,T,p1 ++ p4,arr,e1,e2,?_,rfl,hst⟩
  · rw [List.cons_append,List.nodup_cons]
    refine ⟨fun hm => hn1.1 ?_,List.nodup_append.2 ⟨List.nodup_append.2 ⟨hn2.1,hn3.2.1,fun a ha b hb => hn2.2.2 a ha b (List.mem_append_right _ hb)⟩,hn3.1,fun a ha b hb e => ?_⟩⟩
    · simp only [List.mem_append] at hm ⊢
      rcases hm with (h | h) | h
      · exact .inl h
      · exact .inr (.inr h)
      · exact .inr (.inl h)
    · rcases List.mem_append.1 ha with ha | ha
      · exact hn2.2.2 a ha b (List.mem_append_left _ hb) e
      · exact hn3.2.2 b hb a ha e.symm
  · intro k hk
    simp only [List.cons_append,List.mem_cons,List.mem_append] at hk ⊢
    rcases hk with h | (h | h) | h
    · exact .inl h
    · exact .inr (.inl h)
    · exact .inr (.inr (.inr h))
    · exact .inr (.inr (.inl h))
  · rw [eu,eu2]
    have := Ay.join r1 (show Ay P w St (.tok u :: C) (u :: us3) p4 from ⟨u,us3,[],p4,rfl,by simp,rfl,VE r3,r4⟩)
    exact this
theorem Xy {s q : Nat} {c : V} {e : TypeId} {n : Nat} {cs : List V} {c' : Value -> V} (hs : σ s = c) (hq : σ q = .undef) (hsq : s ≠ q) (L : cm P c e n cs c') (hn : 0 < n) (hb : ∀ u,(DA (c' u)).isSome = (DA c).isSome) (hrf : ∀ u,Dj (c' u) = none)
    (h : ∀ g m,Gh P nt bx (upd (upd σ s (c' (.slice (some ⟨g,0,none⟩) n m))) q (.gh [.slice (some ⟨g,0,none⟩) n m] [.own e n cs])) K) : Gh P nt bx σ K := by
  rintro base St0 w0 a w ⟨St,B,hS,r1,r2,r3⟩
  have h1 := hS.slot s
  rw [hs] at h1
  obtain ⟨u,b1,b2,q1,q2,q3,q4⟩ := L w St (tm a) (tm a s) (B s) h1 (hS.nodup s)
  obtain ⟨g,m,rfl⟩ := Yn q1 hn
  exact h g m base St0 w0 a w ⟨St,_,IB hS hsq (by rw [hq]; rfl) q4 (show AZ P w St (tm a) (.gh [_] [_]) _ b2 from ⟨_,[],b2,[],rfl,by simp,rfl,q1,rfl,rfl⟩) q2 (fun g hg => .inl (q3 g hg)) (by rw [hs]; exact hb _) (hrf _) rfl rfl,r1,r2,r3⟩
def cl (P : Program) (c' : V) (u : Value) (e : TypeId) (n : Nat) (cs : List V) (c : V) : Prop :=
  ∀ w St (t : Nat -> Value) v b1 b2,AZ P w St t c' v b1 -> Ow P w St (.own e n cs) u b2 -> (b1 ++ b2).Nodup -> ∃ bs,bs.Nodup ∧ (∀ g ∈ bs,g ∈ b1 ++ b2) ∧ AZ P w St t c v bs
theorem ZG {u : Value} {e : TypeId} {n : Nat} {cs : List V} : cl P (.tok u) u e n cs (.own e n cs) := by
  intro w St t v b1 b2 h1 h2 hn
  have hv : v = u := h1.2.1
  subst hv
  exact ⟨b2,(List.nodup_append.1 hn).2.1,fun g hg => List.mem_append_right _ hg,h2⟩
theorem ZF {u : Value} {e : TypeId} {n : Nat} {cs A C : List V} : cl P (.box (A ++ .tok u :: C)) u e n cs (.box (A ++ .own e n cs :: C)) := by
  rintro w St t v b1 b2 ⟨g,T,bs',arr,e1,e2,hr,rfl,hst⟩ h2 hn
  obtain ⟨us1,us2,p1,p2,eu,eb,r1,r2⟩ := hr.app
  obtain ⟨u',us3,p3,p4,eu2,eb2,hc,r3,r4⟩ := r2
  obtain ⟨hp3,hu,_⟩ := r3
  subst hu hp3 eb eb2
  have hn1 := List.nodup_append.1 hn
  have hn2 := List.nodup_cons.1 hn1.1
  have hn3 := List.nodup_append.1 hn2.2
  refine ⟨g :: (p1 ++ (b2 ++ p2)),?_,?_,g,T,p1 ++ (b2 ++ p2),arr,e1,e2,?_,rfl,hst⟩
  · refine List.nodup_cons.2 ⟨fun hm => ?_,List.nodup_append.2 ⟨hn3.1,List.nodup_append.2 ⟨hn1.2.1,hn3.2.1,fun a ha b hb e => hn1.2.2 b (List.mem_cons_of_mem _ (List.mem_append_right _ hb)) a ha e.symm⟩,fun a ha b hb e => ?_⟩⟩
    · simp only [List.mem_append] at hm
      rcases hm with h | h | h
      · exact hn2.1 (List.mem_append_left _ h)
      · exact hn1.2.2 g (List.mem_cons_self) g h rfl
      · exact hn2.1 (List.mem_append_right _ h)
    · rcases List.mem_append.1 hb with hb | hb
      · exact hn1.2.2 a (List.mem_cons_of_mem _ (List.mem_append_left _ ha)) b hb e
      · exact hn3.2.2 a ha b hb e
  · intro k hk
    simp only [List.cons_append,List.mem_cons,List.mem_append] at hk ⊢
    rcases hk with h | h | h | h
    · exact .inl h
    · exact .inr (.inl (.inl h))
    · exact .inr (.inr h)
    · exact .inr (.inl (.inr h))
  · rw [eu,eu2]
    exact Ay.join r1 (show Ay P w St (.own e n cs :: C) (u' :: us3) (b2 ++ p2) from ⟨u',us3,b2,p2,rfl,rfl,rfl,h2,r4⟩)
theorem Xx {s q : Nat} {u : Value} {e : TypeId} {n : Nat} {cs : List V} {c c' : V} (hs : σ s = c') (hq : σ q = .gh [u] [.own e n cs]) (hsq : s ≠ q) (D : cl P c' u e n cs c) (hb : (DA c).isSome = (DA c').isSome) (hrf : Dj c = none)
    (h : Gh P nt bx (upd (upd σ s c) q .undef) K) : Gh P nt bx σ K := by
  rintro base St0 w0 a w ⟨St,B,hS,r1,r2,r3⟩
  have h1 := hS.slot s
  rw [hs] at h1
  have h2 := hS.slot q
  rw [hq] at h2
  obtain ⟨u',us',b1,b2,eu,eb,_,hOw,hnil⟩ := h2
  simp only [List.cons.injEq] at eu
  obtain ⟨rfl,rfl⟩ := eu
  have hb2 : b2 = [] := hnil.2
  subst hb2
  rw [List.append_nil] at eb
  have hnd : (B s ++ b1).Nodup := List.nodup_append.2 ⟨hS.nodup s,by have := hS.nodup q; rwa [eb] at this,fun x hx y hy e => by subst e; exact hS.apart s q hsq x hx (by rw [eb]; exact hy)⟩
  obtain ⟨bs,q1,q2,q3⟩ := D w St (tm a) (tm a s) (B s) b1 h1 hOw hnd
  exact h base St0 w0 a w ⟨St,_,IB hS hsq (by rw [hq]; rfl) q3 (show AZ P w St (tm a) .undef _ [] from rfl) (by simpa using q1) (fun g hg => by
    rw [List.append_nil] at hg
    rcases List.mem_append.1 (q2 g hg) with hh | hh
    · exact .inl hh
    · exact .inr (by rw [eb]; exact hh)) (by rw [hs]; exact hb) hrf rfl rfl,r1,r2,r3⟩
variable {α : Type} {f : α -> List V}
theorem ZP {s q : Nat} {l : List α} {c : V} {c' : (Nat -> Value) -> V} (hs : σ s = c) (hq : σ q = .undef) (hsq : s ≠ q) (S : SR P f c l 0 c') (hb : ∀ U,(DA (c' U)).isSome = (DA c).isSome) (hrf : ∀ U,Dj (c' U) = none)
    (h : ∀ (U : Nat -> Value) (us : List Value),us.length = l.length -> (∀ i,i < l.length -> U i = us.getD i undef) -> Gh P nt bx (upd (upd σ s (c' U)) q (.gh us (l.map fun x => Kv (f x)))) K) : Gh P nt bx σ K := by
  rintro base St0 w0 a w ⟨St,B,hS,r1,r2,r3⟩
  have h1 := hS.slot s
  rw [hs] at h1
  obtain ⟨us,b1,b2,q1,q2,q3,q4,q5⟩ := S w St (tm a) (tm a s) (B s) h1 (hS.nodup s)
  have hU : ∀ i,i < l.length -> (fun i => us.getD i undef) (0 + i) = us.getD i undef := fun i _ => by simp
  exact h (fun i => us.getD i undef) us q1 (fun i _ => rfl) base St0 w0 a w ⟨St,_,IB hS hsq (by rw [hq]; rfl) (q5 (fun i => us.getD i undef) hU) (show AZ P w St (tm a) (.gh us _) _ b2 from q2) q3 (fun g hg => .inl (q4 g hg)) (by rw [hs]; exact hb _) (hrf _) rfl rfl,r1,r2,r3⟩
theorem cY [BEq α] {s q : Nat} {l : List α} {us : List Value} {U : Nat -> Value} {L : List (Nat × α ⊕ α)} {c c' : V} {cs : List V} (hs : σ s = c) (hq : σ q = .gh us cs) (hcs : cs = l.map fun x => Kv (f x)) (hsq : s ≠ q) (J : Ze P f U c L c') (hU : ∀ i,i < l.length -> U i = us.getD i undef) (hok : okJ l L [] = true)
    (hb : (DA c').isSome = (DA c).isSome) (hrf : Dj c' = none) (h : Gh P nt bx (upd (upd σ s c') q .undef) K) : Gh P nt bx σ K := by
  rintro base St0 w0 a w ⟨St,B,hS,r1,r2,r3⟩
  have k1 := hS.slot s
  rw [hs] at k1
  have k2 := hS.slot q
  rw [hq,hcs] at k2
  obtain ⟨b',q1,q2,q3⟩ := J w St (tm a) (tm a s) (B s) l us (B q) k1 k2 (hS.nodup q) hU hok (hS.nodup s) (fun g hg => hS.apart s q hsq g hg)
  exact h base St0 w0 a w ⟨St,_,IB hS hsq (by rw [hq]; rfl) q1 (show AZ P w St (tm a) .undef _ [] from rfl) (by rw [List.append_nil]; exact q2) (fun g hg => by rw [List.append_nil] at hg; exact q3 g hg) (by rw [hs]; exact hb) hrf rfl rfl,r1,r2,r3⟩
end
end Go.Proofs.YtpcbnmcfplioeaaGreat
namespace Go.Proofs.YtpcbnmcfplioeaaGreat
open Go.RowKit
set_option linter.unusedVariables false
mutual
def NX : V -> V
  | .dat n cs => .arg n (IU cs)
  | .agg cs => .agg (IU cs)
  | .int k n => .int k n
  | .bool b => .bool b
  | .str s => .str s
  | .fn f => .fn f
  | _ => .undef
def IU : List V -> List V
  | [] => []
  | c :: cs => NX c :: IU cs
end
mutual
def NW : V -> Bool
  | .dat _ cs => BT cs
  | .int _ _ => true
  | .bool _ => true
  | .str _ => true
  | .fn _ => true
  | _ => false
def BT : List V -> Bool
  | [] => true
  | c :: cs => NW c && BT cs
end
def Hd : V -> Bool
  | .agg cs => BT cs
  | c => NW c
section
variable {P : Program} {w : World} {St : Nat -> Nat -> Prop} {N : Nat -> Prop}
theorem WO {cs : List V} : IU cs ≠ [] -> cs ≠ [] := fun h e => h (by subst e; rfl)
mutual
theorem Rd.LB (hst : ∀ b o,St b o -> N b) : ∀ (c : V) {v : Value},NW c = true -> Rd w St c v -> Rd w (fun b o => St b o ∨ N b) (NX c) v
  | .int _ _,_,_,h => h
  | .bool _,_,_,h => h
  | .str _,_,_,h => h
  | .fn _,_,_,h => h
  | .dat _ cs,_,ha,⟨hn,A,c,e,hc,h,h0⟩ => ⟨hn,A,c,e,hc,fun hp => let ⟨b,off,ea,hr⟩ := h hp; ⟨b,off,ea,fun hne o => .inr (BK.blk hst b off cs (WO hne) hr),BK.LB hst b off cs ha hr⟩,fun hz => by rw [h0 hz]; rfl⟩
  | .own _ _ _,_,ha,_ => by cases ha
  | .pin _ _ _,_,ha,_ => by cases ha
  | .arg _ _,_,ha,_ => by cases ha
  | .agg _,_,ha,_ => by cases ha
  | .tup _,_,ha,_ => by cases ha
  | .box _,_,ha,_ => by cases ha
  | .uni _ _ _,_,ha,_ => by cases ha
  | .same _,_,ha,_ => by cases ha
  | .cref _ _,_,ha,_ => by cases ha
  | .adr _ _,_,ha,_ => by cases ha
  | .gh _ _,_,ha,_ => by cases ha
  | .tok _,_,ha,_ => by cases ha
  | .undef,_,ha,_ => by cases ha
theorem BK.LB (hst : ∀ b o,St b o -> N b) (b : Nat) : ∀ (off : Nat) (cs : List V),BT cs = true -> BK w St b off cs -> BK w (fun b o => St b o ∨ N b) b off (IU cs)
  | _,[],_,_ => trivial
  | off,c :: cs,ha,⟨⟨h1,u,hu,hr⟩,h2⟩ => by
    rw [BT,Bool.and_eq_true] at ha
    exact ⟨⟨.inl h1,u,hu,Rd.LB hst c ha.1 hr⟩,BK.LB hst b (off + 1) cs ha.2 h2⟩
theorem BK.blk (hst : ∀ b o,St b o -> N b) (b : Nat) : ∀ (off : Nat) (cs : List V),cs ≠ [] -> BK w St b off cs -> N b
  | _,[],h,_ => absurd rfl h
  | off,_ :: _,_,⟨⟨h1,_⟩,_⟩ => hst b off h1
end
theorem RdL.LB (hst : ∀ b o,St b o -> N b) : ∀ (cs : List V) {us : List Value},BT cs = true -> RdL w St cs us -> RdL w (fun b o => St b o ∨ N b) (IU cs) us
  | [],_,_,h => h
  | c :: cs,_,ha,⟨u,us',e,h1,h2⟩ => by
    rw [BT,Bool.and_eq_true] at ha
    exact ⟨u,us',e,Rd.LB hst c ha.1 h1,RdL.LB hst cs ha.2 h2⟩
theorem RdA.LB (hst : ∀ b o,St b o -> N b) {c : V} {v : Value} (ha : Hd c = true) (h : RdA w St c v) : RdA w (fun b o => St b o ∨ N b) (NX c) v := by
  cases c <;> first | exact Rd.LB hst _ ha h | (cases ha; done) | skip
  obtain ⟨us,e,h⟩ := h
  exact ⟨us,e,RdL.LB hst _ ha h⟩
theorem Pw.LB (hst : ∀ b o,St b o -> N b) : ∀ {args : List V} {vs : List Value},args.all Hd = true -> Pw w St args vs -> Pw w (fun b o => St b o ∨ N b) (args.map NX) vs
  | [],_,_,h => h
  | c :: args,_,ha,⟨u,us',e,h1,h2⟩ => by
    simp only [List.all_cons,Bool.and_eq_true] at ha
    exact ⟨u,us',e,RdA.LB hst ha.1 h1,Pw.LB hst ha.2 h2⟩
end
theorem Q3 {c : V} (h : NW c = true) : KP (NX c) = true := by
  cases c <;> first | rfl | cases h
theorem Q4 : ∀ {cs : List V},BT cs = true -> (IU cs).all KP = true
  | [],_ => rfl
  | c :: cs,h => by
    rw [BT,Bool.and_eq_true] at h
    rw [IU,List.all_cons,Q3 h.1,Q4 h.2]; rfl
theorem Q2 {c : V} (h : Hd c = true) : OM (NX c) = true := by
  cases c <;> first | exact Q3 h | (cases h; done) | skip
  exact Q4 (show BT _ = true from h)
def ZB : V -> Bool
  | .tup cs => AX cs
  | c => deep c
section
variable {P : Program} {w w' : World} {St St' : Nat -> Nat -> Prop}
theorem I7.kept : ∀ (cs : List V) {us : List Value} {bs : List Nat},AX cs = true -> I7 P w St cs us bs -> (∀ g ∈ bs,w'.heap[g]? = w.heap[g]? ∧ ∀ o,St' g o ↔ St g o) -> I7 P w' St' cs us bs
  | [],_,_,_,h,_ => h
  | c :: cs,_,_,hd,⟨u,us',b1,b2,e1,e2,h1,h2⟩,hb => by
    have hd' : deep c = true ∧ AX cs = true := by simpa [AX] using hd
    exact ⟨u,us',b1,b2,e1,e2,Ow.kept c hd'.1 h1 (fun g hg => hb g (by rw [e2]; exact List.mem_append_left _ hg)),I7.kept cs hd'.2 h2 (fun g hg => hb g (by rw [e2]; exact List.mem_append_right _ hg))⟩
theorem Wg {c : V} {v : Value} {bs : List Nat} (hd : ZB c = true) (h : Ow P w St c v bs) (hb : ∀ g ∈ bs,w'.heap[g]? = w.heap[g]? ∧ ∀ o,St' g o ↔ St g o) : Ow P w' St' c v bs := by
  cases c <;> first | exact Ow.kept _ hd h hb | skip
  obtain ⟨us,e,h⟩ := h
  exact ⟨us,e,I7.kept _ hd h hb⟩
end
section
variable {P : Program} {tb : Tb}
theorem YK (htb : JY P tb) {f : FuncId} {fn : Func} {c : Code} {args : List V} {r : V} (hf : P.funcs[f]? = some fn) (hb : fn.body = some c) (hname : (fn.name == "runtime.NumGoroutine") = false) (bx : List Nat) (hlen : args.length <= fn.ntmps) (hargs : args.all Hd = true) (hr : ZB r = true)
    (hn : (fn.results.toList.map Lu).Nodup) (h : Ky P fn.ntmps bx c (Ja (args.map NX)) (fun e σ => (e = .ret ∨ e = .normal) ∧ az tb σ fn.results.toList = some r)) : Ai P f args r := by
  refine ⟨⟨fn,hf,by rw [hb]; rfl,hname⟩,fun w St vs hst hvs => ?_⟩
  have hvs' := Pw.LB hst hargs hvs
  have hst' : ∀ b o,(St b o ∨ b < w.heap.size) -> b < w.heap.size := fun b o h => h.elim (hst b o) id
  have hpl : (args.map NX).all OM = true := by
    rw [List.all_map,List.all_eq_true]
    exact fun x hx => Q2 (List.all_eq_true.1 hargs x hx)
  obtain ⟨hl,hat⟩ := args_at hvs'
  refine calls_of_wp hf hb ?_
  have hrel := Tz (P := P) (bx := bx) hst' hvs' (by simpa using hlen) hpl
  refine wp_mono (h _ _ _ _ _ hrel) ?_
  rintro e a' w' ⟨σ',⟨he,hres⟩,St1,B',h1,h2,h3,h4⟩
  have hfin : a'.defers = [] ∧ ∃ v,(results fn a'.tmps).run P w' = .ok v w' ∧ Ret P w St r (.returned v) w' := by
    obtain ⟨v,bs,q1,q2,q3,q4⟩ := Yv htb h1 hn hres
    have hge : ∀ g ∈ bs,w.heap.size <= g := fun g hg => Nat.le_of_not_lt (q4 g hg).1
    refine ⟨h1.defers,v,q1,v,bs,fun b o => (b < w.heap.size ∧ St b o) ∨ (w.heap.size <= b ∧ St1 b o),rfl,⟨h2.os,h2.tape,h2.output,h2.size,h2.block⟩,fun b o hlt => ⟨fun hh => hh.elim (·.2) (fun hh => absurd hh.1 (by omega)),fun hh => .inl ⟨hlt,hh⟩⟩,fun b o hh => ?_,?_,q3,fun g hg => ⟨hge g hg,(q4 g hg).2⟩⟩
    · rcases hh with hh | hh
      · exact Nat.lt_of_lt_of_le hh.1 h2.size
      · exact h1.st b o hh.2
    · exact Wg hr q2 (fun g hg => ⟨rfl,fun o => ⟨fun hh => hh.elim (fun hh => absurd hh.1 (by have := hge g hg; omega)) (·.2),fun hh => .inr ⟨hge g hg,hh⟩⟩⟩)
  rcases he with rfl | rfl
  · exact hfin
  · exact hfin
theorem Pw.mono {w w' : World} {St St' : Nat -> Nat -> Prop} (hs : ∀ b o,St b o -> St' b o) (he : Ext St w w') : ∀ {args : List V} {vs : List Value},Pw w St args vs -> Pw w' St' args vs
  | [],_,h => h
  | c :: args,_,⟨u,us',e,h1,h2⟩ => ⟨u,us',e,h1.mono hs he,Pw.mono hs he h2⟩
theorem en (htb : JY P tb) {f : FuncId} {fn : Func} {c : Code} {cs args cs' : List V} (hf : P.funcs[f]? = some fn) (hb : fn.body = some c) (hname : (fn.name == "runtime.NumGoroutine") = false) (bx : List Nat) (hlen : args.length + 1 <= fn.ntmps) (h0 : 0 ∈ bx) (hk0 : Od ∈ bx) (hargs : args.all Hd = true)
    (hrs : fn.results.toList = []) (hcs : AX cs = true) (hcs' : AX cs' = true) (h : Ky P fn.ntmps bx c (Ja (.box cs :: args.map NX)) (fun e σ => (e = .ret ∨ e = .normal) ∧ az tb σ fn.results.toList = some (.tup []) ∧ σ 0 = .box cs')) : co P f cs args cs' := by
  refine ⟨⟨fn,hf,by rw [hb]; rfl,hname⟩,fun w St g T arr bs0 vs hst hg hrow hnd hrg hng hvs => ?_⟩
  have hgs : g < w.heap.size := by
    rcases Nat.lt_or_ge g w.heap.size with h | h
    · exact h
    · rw [Array.getElem?_eq_none h] at hg; cases hg
  have hN : ∀ b o,(St b o ∧ b ∉ bs0) -> (b < w.heap.size ∧ b ∉ g :: bs0) := fun b o h => ⟨hst b o h.1,fun hm => (List.mem_cons.1 hm).elim (fun e => hng o (e ▸ h.1)) h.2⟩
  have hvs0 := Pw.LB (N := fun b => b < w.heap.size ∧ b ∉ g :: bs0) hN hargs hvs
  have hvs' : Pw w (fun b o => St b o ∨ (b < w.heap.size ∧ b ∉ g :: bs0)) (args.map NX) vs := hvs0.mono (fun b o h => h.imp (·.1) id) (fun _ _ _ => rfl)
  have hst' : ∀ b o,(St b o ∨ (b < w.heap.size ∧ b ∉ g :: bs0)) -> b < w.heap.size := fun b o h => h.elim (hst b o) (·.1)
  have hrow' : Ay P w (fun b o => St b o ∨ (b < w.heap.size ∧ b ∉ g :: bs0)) cs arr.toList bs0 := Ay.kept cs hcs hrow (fun k hk => ⟨rfl,fun o => ⟨fun h => h.elim id (fun h => absurd (List.mem_cons_of_mem _ hk) h.2),.inl⟩⟩)
  have hpl : (args.map NX).all OM = true := by
    rw [List.all_map,List.all_eq_true]
    exact fun x hx => Q2 (List.all_eq_true.1 hargs x hx)
  obtain ⟨hl,hat⟩ := args_at hvs'
  rw [List.length_map] at hl
  refine calls_of_wp hf hb ?_
  have hrel : Rel P fn.ntmps bx ⟨fun b => b < w.heap.size ∧ b ∉ g :: bs0,some (.pointer (some ⟨g,0,none⟩))⟩ (fun b o => St b o ∨ (b < w.heap.size ∧ b ∉ g :: bs0)) w (Ja (.box cs :: args.map NX)) { tmps := (Value.pointer (some ⟨g,0,none⟩) :: vs).toArray ++ Array.replicate (fn.ntmps - (Value.pointer (some ⟨g,0,none⟩) :: vs).toArray.size) undef,defers := [] } w := by
    refine ⟨_,fun s => if s = 0 then g :: bs0 else [],?_,BelowK.refl _ _,fun _ _ _ => Iff.rfl,fun _ h => h.1⟩
    refine
    { size := by simp; omega
      defers := rfl
      slot := fun s => ?_
      boxes := fun s cs e => ?_
      crefs := fun s b e => ?_
      nodup := fun s => by
        split
        · exact hnd
        · exact List.nodup_nil
      apart := fun s t hst k hk hk' => by
        split at hk
        · split at hk'
          · omega
          · simp at hk'
        · simp at hk
      hnodup := List.nodup_nil
      hapart := fun _ k hk => by simp
      range := fun s k hk => by
        split at hk
        · exact ⟨fun h => h.2 hk,(List.mem_cons.1 hk).elim (fun e => e ▸ hgs) (hrg k)⟩
        · simp at hk
      hrange := fun k hk => by simp at hk
      st := hst'
      pin := fun v e => by
        simp only [Option.some.injEq] at e
        subst e
        rw [YT]
        exact ⟨rfl,h0,hk0⟩ }
    · rw [YT]
      cases s with
      | zero => exact ⟨g,T,bs0,arr,rfl,hg,hrow',rfl,fun o h => h.elim (hng o) (fun h => h.2 List.mem_cons_self)⟩
      | succ s =>
        rw [if_neg (by omega)]
        cases hc : (args.map NX)[s]? with
        | none =>
          have : vs[s]? = none := by
            rw [List.getElem?_eq_none_iff,List.length_map] at hc
            rw [List.getElem?_eq_none_iff]; omega
          simp only [Ja,List.getElem?_cons_succ,hc,this,Option.getD_none]
          exact ⟨[],rfl,rfl,rfl⟩
        | some c =>
          obtain ⟨v,hv,hr⟩ := hat s c hc
          simp only [Ja,List.getElem?_cons_succ,hc,hv,Option.getD_some]
          exact (Tv (List.all_eq_true.1 hpl c (List.mem_of_getElem? hc)) hr).slot
    · cases s with
      | zero => exact h0
      | succ s =>
        simp only [Ja,List.getElem?_cons_succ] at e
        cases hc : (args.map NX)[s]? with
        | none => rw [hc] at e; cases e
        | some c =>
          rw [hc] at e
          have hp := List.all_eq_true.1 hpl c (List.mem_of_getElem? hc)
          simp only [Option.getD_some] at e
          cases c <;> first | (cases hp; done) | (cases e; done)
    · cases s with
      | zero => cases e
      | succ s =>
        simp only [Ja,List.getElem?_cons_succ] at e
        cases hc : (args.map NX)[s]? with
        | none => rw [hc] at e; cases e
        | some c =>
          rw [hc] at e
          have hp := List.all_eq_true.1 hpl c (List.mem_of_getElem? hc)
          simp only [Option.getD_some] at e
          cases c <;> first | (cases hp; done) | (cases e; done)
  refine wp_mono (h _ _ _ _ _ hrel) ?_
  rintro e a' w' ⟨σ',⟨he,hres,hbox⟩,St1,B',h1,h2,h3,h4⟩
  have hfin : a'.defers = [] ∧ ∃ v,(results fn a'.tmps).run P w' = .ok v w' ∧ oO P w St g bs0 cs' (.returned v) w' := by
    obtain ⟨v,bs,q1,q2,q3,q4⟩ := VM htb h1 (by rw [hrs]; exact List.nodup_nil) hres
    obtain ⟨us,eu,hu,-⟩ := q2
    have hs0 := h1.slot 0
    rw [hbox] at hs0
    obtain ⟨g',T',bs',arr',e1,e2,e3,e4,e5⟩ := hs0
    have hgg : g' = g := by
      have := (h1.pin _ rfl).1
      rw [e1] at this
      injection this with this
      injection this with this
      injection this
    subst hgg
    have hn1 := h1.nodup 0
    rw [e4] at hn1
    have hk : ∀ k ∈ bs',(k ∈ bs0 ∨ w.heap.size <= k) ∧ k < w'.heap.size := fun k hk => by
      have hr := h1.range 0 k (by rw [e4]; exact List.mem_cons_of_mem _ hk)
      refine ⟨Classical.byContradiction fun hc => ?_,hr.2⟩
      rw [not_or] at hc
      exact hr.1 ⟨by omega,fun hm => (List.mem_cons.1 hm).elim (fun e => (List.nodup_cons.1 hn1).1 (e ▸ hk)) hc.1⟩
    refine ⟨h1.defers,v,q1,v,bs',fun b o => (b < w.heap.size ∧ b ∉ bs0 ∧ St b o) ∨ ((w.heap.size <= b ∨ b ∈ bs0) ∧ St1 b o),T',arr',rfl,h2,fun b o hb hbn => ?_,fun b o hh => ?_,e2,?_,⟨us,eu,hu,rfl⟩,hn1,hk⟩
    · exact ⟨fun hh => hh.elim (·.2.2) (fun hh => hh.1.elim (fun h => absurd hb (by omega)) (fun h => absurd h hbn)),fun hh => .inl ⟨hb,hbn,hh⟩⟩
    · exact hh.elim (fun hh => Nat.lt_of_lt_of_le hh.1 h2.size) (fun hh => h1.st b o hh.2)
    · exact Ay.kept cs' hcs' e3 (fun k hk' => ⟨rfl,fun o => ⟨fun hh => hh.elim (fun hh => (hk k hk').1.elim (fun h => absurd h hh.2.1) (fun h => absurd hh.1 (by omega))) (·.2),fun hh => .inr ⟨(hk k hk').1.symm,hh⟩⟩⟩)
  rcases he with rfl | rfl
  · exact hfin
  · exact hfin
theorem au (htb : JY P tb) {f : FuncId} {nt : Nat} {bx : List Nat} {rs : List ResultVar} {l : LC} {cs args cs' : List V} (hl : Lit P f nt bx rs l) (hlen : args.length + 1 <= nt) (hb : (bx.contains 0 && bx.contains Od) = true) (hargs : args.all Hd = true) (hrs : rs = []) (hcs : AX cs = true) (hcs' : AX cs' = true)
    (h : LS P nt bx l (Ja (.box cs :: args.map NX)) (o8 tb rs (.tup []) cs')) : co P f cs args cs' := by
  obtain ⟨⟨fn,c,h1,h2,h3,rfl,rfl,h6,h7⟩,hn,hL⟩ := hl
  simp only [Bool.and_eq_true,List.contains_iff_mem] at hb
  exact en htb h1 h2 h3 bx hlen hb.1 hb.2 hargs hrs hcs hcs' (h c h6 h7 hL)
end
def sfY : PL -> Prop
  | [] => True
  | (_,c) :: L => LZ c = true ∧ sfY L
theorem yn : sfY [] := trivial
theorem yc {q : Nat} {c : V} {L : PL} (h : LZ c = true) (k : sfY L) : sfY ((q,c) :: L) := ⟨h,k⟩
theorem VR : ∀ {L : PL},sfY L -> ∀ q,LZ (ofL L q) = true
  | [],_,q => rfl
  | (r,c) :: L,⟨h1,h2⟩,q => by
    by_cases e : q = r
    · subst e
      rw [show ofL ((q,c) :: L) q = c from by simp [ofL,upd_same]]
      exact h1
    · rw [show ofL ((r,c) :: L) q = ofL L q from by simp [ofL,upd_ne _ _ e]]
      exact VR h2 q
theorem R4 : ∀ {L : PL} {q : Nat},q ∉ L.map (·.1) -> ofL L q = .undef
  | [],_,_ => rfl
  | (s,c) :: L,q,h => by
    rw [List.map_cons,List.mem_cons,not_or] at h
    rw [FC,upd_ne _ _ h.1]
    exact R4 h.2
theorem Pf {L : PL} : ∀ {ss : List Nat} {L' : PL},Wr L ss = some L' -> (∀ q,q ∈ ss -> lk L q = some (ofL L' q)) ∧ (∀ q,q ∉ ss -> ofL L' q = .undef) ∧ L'.map (·.1) = ss
  | [],_,h => by cases h; exact ⟨fun q hq => by simp at hq,fun _ _ => rfl,rfl⟩
  | s :: ss,_,h => by
    rw [Wr] at h
    obtain ⟨c,h1,h⟩ := Aa h
    obtain ⟨L1,h2,h⟩ := Aa h
    cases h
    obtain ⟨i1,i2,i3⟩ := Pf h2
    refine ⟨fun q hq => ?_,fun q hq => ?_,by rw [List.map_cons,i3]⟩
    · by_cases e : q = s
      · subst e; rw [FC,upd_same]; exact h1
      · rw [FC,upd_ne _ _ e]; exact i1 q ((List.mem_cons.1 hq).resolve_left e)
    · rw [List.mem_cons,not_or] at hq
      rw [FC,upd_ne _ _ hq.1]; exact i2 q hq.2
def TQ (L : PL) (S : List Nat) : List Nat := (L.map (·.1)).filter fun q => !S.contains q
theorem LX {L : PL} {S : List Nat} {q : Nat} : (TQ L S).contains q = true ↔ q ∈ L.map (·.1) ∧ q ∉ S := by
  unfold TQ
  rw [List.contains_iff_mem,List.mem_filter,Bool.not_eq_true',<- Bool.not_eq_true,List.contains_iff_mem]
theorem Qa {L L1 : PL} {S : List Nat} {g q : Nat} (h : Ws L S = some L1) (hg : q ≠ g) : kill (TQ L (g :: S)) (ofL L) q = ofL L1 q := by
  obtain ⟨L',h1,h⟩ := Aa h
  obtain ⟨h2,h⟩ := BL h
  cases h
  obtain ⟨i1,i2,i3⟩ := Pf h1
  by_cases hq : q ∈ S
  · have e1 := Dx (i1 q hq)
    have hD : ¬ (TQ L (g :: S)).contains q = true := fun h => (LX.1 h).2 (List.mem_cons_of_mem _ hq)
    unfold kill
    rw [if_neg hD,e1]
    cases hr : Dj (ofL L1 q) with
    | none => rfl
    | some b =>
      have hb : b ∈ S := by
        obtain ⟨p,hp,hpr⟩ := X9 hr
        have := List.all_eq_true.1 h2 p hp
        rw [hpr,i3] at this
        exact List.contains_iff_mem.1 this
      have hD' : ¬ (TQ L (g :: S)).contains b = true := fun h => (LX.1 h).2 (List.mem_cons_of_mem _ hb)
      simp only [if_neg hD']
  · rw [i2 q hq]
    by_cases hk : q ∈ L.map (·.1)
    · exact RV (LX.2 ⟨hk,fun h => (List.mem_cons.1 h).elim hg hq⟩)
    · unfold kill
      rw [R4 hk]
      split <;> rfl
theorem ey {α : Type} {f : α -> List V} {es : Nat} (z : ∀ x,(f x).length = es) {l : List α} {i : Int} {y : α} (gy : AO l i = some y) {o : Nat} {vs : List V} (ho : o + vs.length <= es) {x' : α} (hx : Oz (f y) o vs = f x') : Oz (l.flatMap f) (i.toNat * es + o) vs = (Jr l i x').flatMap f := by
  obtain ⟨g1,g2,g3⟩ := AD gy
  have hk : i.toNat < l.length := by omega
  unfold Jr
  rw [<- TA z hk x',<- hx]
  unfold Oz
  have e1 : (l.flatMap f).drop (i.toNat * es) = f y ++ (l.flatMap f).drop ((i.toNat + 1) * es) := by
    rw [Iz z,Iz z]
    obtain ⟨hlt,he⟩ := List.getElem?_eq_some_iff.1 g3
    rw [List.drop_eq_getElem_cons hlt,he,List.flatMap_cons]
  have hl : ((f y).take o ++ vs ++ (f y).drop (o + vs.length)).length = es := by
    have := z y
    simp only [List.length_append,List.length_take,List.length_drop]
    omega
  rw [hl]
  have e2 : (l.flatMap f).take (i.toNat * es + o) = (l.flatMap f).take (i.toNat * es) ++ (f y).take o := by
    have hlen : i.toNat * es <= (l.flatMap f).length := by
      rw [Av z]
      exact Nat.mul_le_mul_right _ (Nat.le_of_lt hk)
    rw [List.take_add,e1,List.take_append_of_le_length (by rw [z y]; omega)]
  have e3 : (l.flatMap f).drop (i.toNat * es + o + vs.length) = (f y).drop (o + vs.length) ++ (l.flatMap f).drop (i.toNat * es + es) := by
    rw [Nat.add_assoc,<- List.drop_drop,e1,List.drop_append_of_le_length (by rw [z y]; omega),Nat.add_mul,Nat.one_mul]
  rw [e2,e3]
  simp only [List.append_assoc]
theorem get_at {α : Type} {f : α -> List V} {es : Nat} (z : ∀ x,(f x).length = es) {l : List α} {i : Int} {y : α} (gy : AO l i = some y) {o : Nat} {dd : TyD} (ho : o + dd.size <= es) (hp : 0 < dd.size) : getCells dd (l.flatMap f) (i.toNat * es + o) = getCells dd (f y) o ∧ i.toNat * es + o + dd.size <= (l.flatMap f).length := by
  obtain ⟨g1,g2,g3⟩ := AD gy
  have hk : i.toNat < l.length := by omega
  have e1 : (l.flatMap f).drop (i.toNat * es) = f y ++ (l.flatMap f).drop ((i.toNat + 1) * es) := by
    rw [Iz z,Iz z]
    obtain ⟨hlt,he⟩ := List.getElem?_eq_some_iff.1 g3
    rw [List.drop_eq_getElem_cons hlt,he,List.flatMap_cons]
  have hz := z y
  refine ⟨?_,?_⟩
  · have e2 : ∀ k,k < es -> (l.flatMap f)[i.toNat * es + k]? = (f y)[k]? := fun k hk => by
      rw [<- List.getElem?_drop,e1,List.getElem?_append_left (by omega)]
    cases dd with
    | st n zz fs =>
      simp only [getCells,TyD.size] at ho ⊢
      rw [<- List.drop_drop,e1,List.drop_append_of_le_length (by omega),List.take_append_of_le_length (by rw [List.length_drop]; omega)]
    | _ => simp only [getCells,TyD.size] at ho ⊢; rw [e2 o (by omega)]
  · rw [Av z]
    have : (i.toNat + 1) * es <= l.length * es := Nat.mul_le_mul_right _ hk
    rw [Nat.add_mul,Nat.one_mul] at this
    omega
theorem sl {α : Type} {n : Nat} {l : List α} {i : Int} {x : α} (h : n = l.length) : n = (Jr l i x).length := by unfold Jr; rw [List.length_set]; exact h
section
variable {P : Program} {tb : Tb} {cns : List Nat} {L : PL} {K : PS -> Prop} {s t : Nat} {x y : Operand} {nt : Nat} {bx : List Nat}
theorem qIt {d : Nat} {α : Type} {l : List α} {y0 : α} {g n m es eb : Nat} {i : Int} {kk : IntKind} {e : TypeId} {ez : List V} (hx : opO L x = some (.tok (.slice (some ⟨g,0,none⟩) n m))) (hy : opO L y = some (.int kk i)) (ht : tb s = some (.sl e es eb ez)) (hn : n = l.length) (gi : AO l i = some y0)
    (k : K (ofL ((d,.tok (.pointer (some ⟨g,i.toNat * es,none⟩))) :: L))) : evO P tb cns ⟨some d,.indexAddr s x y,t,none⟩ (ofL L) K := by
  obtain ⟨g1,g2,g3⟩ := AD gi
  subst hn
  refine ⟨?_,?_⟩
  · simp only [pc,dh,ht,XI,Cb hx,Cb hy,OS,aY]; exact ⟨g1,g2⟩
  · simp only [pv,di,ht,iaS,Cb hx,Cb hy,OS,lE]; exact k
theorem qLe {q d : Nat} {α : Type} {f : α -> List V} {l : List α} {y0 : α} {i : Int} {g off m n es : Nat} {e : TypeId} {v : V} {dd : TyD} (o : Nat) (hq : (Nat.beq q gS || Nat.beq q gU) = true) (hc : cns.contains d = true) (hx : adO L x = some (.tok (.pointer (some ⟨g,off,none⟩)))) (ho : off = i.toNat * es + o) (ht : tb s = some dd)
    (hg : lk L q = some (.gh [.slice (some ⟨g,0,none⟩) n m] [.own e n (l.flatMap f)])) (z : ∀ x,(f x).length = es) (gy : AO l i = some y0) (hol : (Nat.ble (o + dd.size) es && Nat.ble 1 dd.size) = true) (hv : frc (getCells dd (f y0) o) = some v) (k : K (ofL ((d,v) :: L))) :
    evO P tb cns ⟨some d,.load s x,t,none⟩ (ofL L) K := by
  subst ho
  rw [Bool.and_eq_true] at hol
  obtain ⟨e1,e2⟩ := get_at (dd := dd) z gy (nb hol.1) (nb hol.2)
  simp only [evO,hc,if_true,Th,ht,Nf hx]
  refine ⟨trivial,q,g,_,e,n,m,_,rfl,(Bool.or_eq_true_iff.1 hq).imp Nat.eq_of_beq_eq_true Nat.eq_of_beq_eq_true,Dx hg,e2,nb hol.2,?_⟩
  rw [e1,<- Ge hv]
  exact k
theorem pV {α : Type} {f : α -> List V} {l : List α} {y0 : α} {i : Int} {g off m n es : Nat} {e : TypeId} {c : V} {dd : TyD} {L0 L1 : PL} {vc : List V} (o : Nat) (x' : α) (S : List Nat) (hx : adO L x = some (.tok (.pointer (some ⟨g,off,none⟩)))) (ho : off = i.toNat * es + o) (ht : tb s = some dd)
    (hg : lk L gS = some (.gh [.slice (some ⟨g,0,none⟩) n m] [.own e n (l.flatMap f)])) (hy : opO L y = some c) (h0 : (!(yT y).contains gS && !S.contains gS) = true) (hvc : oD (ofL L) y vc) (hn : (Nat.beq vc.length dd.size && Nat.ble (o + dd.size) es) = true) (hk0 : O5 L y c = some L0) (hk : Ws L0 S = some L1)
    (hx' : Oz (f y0) o vc = f x') (z : ∀ x,(f x).length = es) (gy : AO l i = some y0) (hd : ∀ x,Fk (f x) = true) (hd' : Fk vc = true) (hs : sfY L1) (k : K (ofL ((gS,.gh [.slice (some ⟨g,0,none⟩) n m] [.own e n ((Jr l i x').flatMap f)]) :: L1))) :
    evO P tb cns ⟨none,.store s x y,t,none⟩ (ofL L) K := by
  simp only [Bool.and_eq_true,Bool.not_eq_true'] at h0 hn
  subst ho
  have e1 := Cb hy
  have hn1 : vc.length = dd.size := Nat.eq_of_beq_eq_true hn.1
  have hn2 := nb hn.2
  have e0 : ofL L0 = Be (ofL L) y := Iv hy hk0
  obtain ⟨g1,g2,g3⟩ := AD gy
  have hfl : i.toNat * es + o + dd.size <= (l.flatMap f).length := by
    rw [Av z]
    have : (i.toNat + 1) * es <= l.length * es := Nat.mul_le_mul_right _ (by omega)
    rw [Nat.add_mul,Nat.one_mul] at this
    omega
  refine ⟨rfl,?_⟩
  simp only [aJ,ht,Nf hx]
  refine ⟨g,_,e,n,m,_,TQ L0 (gS :: S),vc,rfl,Dx hg,?_,hvc,hd',hn1,hfl,?_,fun q hq => ?_,?_⟩
  · exact sdF hd l
  · rw [h0.1,Bool.false_or]
    cases hc : (TQ L0 (gS :: S)).contains gS with
    | false => rfl
    | true => exact absurd (List.mem_cons_self) (LX.1 hc).2
  · rw [<- e0]
    by_cases hD : (TQ L0 (gS :: S)).contains q = true
    · exact .inl hD
    · right
      have e2 := Qa hk hq
      rcases Oe (TQ L0 (gS :: S)) (ofL L0) q with e3 | e3
      · by_cases hm : q ∈ L0.map (·.1)
        · have hS : q ∈ S := Classical.byContradiction fun h => hD (LX.2 ⟨hm,fun h' => (List.mem_cons.1 h').elim hq h⟩)
          obtain ⟨L',k1,k2⟩ := Aa hk
          obtain ⟨_,k2⟩ := BL k2
          cases k2
          rw [Dx ((Pf k1).1 q hS)]
          exact VR hs q
        · rw [R4 hm]; rfl
      · rw [<- e3,e2]; exact VR hs q
  · rw [<- e0,ey z gy (by rw [hn1]; exact hn2) hx']
    have e4 : upd (kill (TQ L0 (gS :: S)) (ofL L0)) gS (.gh [.slice (some ⟨g,0,none⟩) n m] [.own e n ((Jr l i x').flatMap f)]) = ofL ((gS,.gh [.slice (some ⟨g,0,none⟩) n m] [.own e n ((Jr l i x').flatMap f)]) :: L1) := by
      rw [FC]
      funext q
      by_cases hq : q = gS
      · subst hq; rw [upd_same,upd_same]
      · rw [upd_ne _ _ hq,upd_ne _ _ hq]; exact Qa hk hq
    rw [e4]
    exact k
theorem qSt {α : Type} {f : α -> List V} {l : List α} {y0 : α} {i : Int} {g off m n es : Nat} {e : TypeId} {c : V} {dd : TyD} {L0 L1 : PL} (o : Nat) (x' : α) (S : List Nat) (hx : adO L x = some (.tok (.pointer (some ⟨g,off,none⟩)))) (ho : off = i.toNat * es + o) (ht : tb s = some dd)
    (hg : lk L gS = some (.gh [.slice (some ⟨g,0,none⟩) n m] [.own e n (l.flatMap f)])) (hy : opO L y = some c) (h0 : (c.isArg && (!(yT y).contains gS && !S.contains gS)) = true) (hn : (Nat.beq (FO c).length dd.size && Nat.ble (o + dd.size) es) = true) (hk0 : O5 L y c = some L0) (hk : Ws L0 S = some L1)
    (hx' : Oz (f y0) o (FO c) = f x') (z : ∀ x,(f x).length = es) (gy : AO l i = some y0) (hd : ∀ x,Fk (f x) = true) (hd' : Fk (FO c) = true) (hs : sfY L1) (k : K (ofL ((gS,.gh [.slice (some ⟨g,0,none⟩) n m] [.own e n ((Jr l i x').flatMap f)]) :: L1))) :
    evO P tb cns ⟨none,.store s x y,t,none⟩ (ofL L) K := by
  rw [Bool.and_eq_true] at h0
  exact pV o x' S hx ho ht hg hy h0.2 (.inl ⟨by rw [Cb hy]; exact h0.1,by rw [Cb hy]⟩) hn hk0 hk hx' z gy hd hd' hs k
section
variable {α : Type} {f : α -> List V} {l : List α} {e : TypeId}
theorem gLb {q b : Nat} (A C : List V) (hs : lk L b = some (.box (A ++ .own e l.length (l.flatMap f) :: C))) (hq : lk L q = none) (hsq : Nat.beq b q = false) (hn : 0 < l.length)
    (h : ∀ g m,K (ofL ((q,.gh [.slice (some ⟨g,0,none⟩) l.length m] [.own e l.length (l.flatMap f)]) :: (b,.box (A ++ .tok (.slice (some ⟨g,0,none⟩) l.length m) :: C)) :: L))) : Gh P nt bx (ofL L) K :=
  Xy (Dx hs) (by rw [Mz,hq]; rfl) (fun e => by rw [e] at hsq; simp at hsq) (Z4 (A := A) (C := C)) hn (fun _ => rfl) (fun _ => rfl) fun g m => bw (h g m)
theorem gLs {q b : Nat} (hs : lk L b = some (.own e l.length (l.flatMap f))) (hq : lk L q = none) (hsq : Nat.beq b q = false) (hn : 0 < l.length)
    (h : ∀ g m,K (ofL ((q,.gh [.slice (some ⟨g,0,none⟩) l.length m] [.own e l.length (l.flatMap f)]) :: (b,.tok (.slice (some ⟨g,0,none⟩) l.length m)) :: L))) : Gh P nt bx (ofL L) K :=
  Xy (Dx hs) (by rw [Mz,hq]; rfl) (fun e => by rw [e] at hsq; simp at hsq) Z5 hn (fun _ => rfl) (fun _ => rfl) fun g m => bw (h g m)
theorem gDb {q b n : Nat} {u : Value} (A C : List V) (hs : lk L b = some (.box (A ++ .tok u :: C))) (hq : lk L q = some (.gh [u] [.own e n (l.flatMap f)])) (hsq : Nat.beq b q = false) (hn : n = l.length)
    (h : K (ofL ((q,.undef) :: (b,.box (A ++ .own e l.length (l.flatMap f) :: C)) :: L))) : Gh P nt bx (ofL L) K := by
  subst hn
  exact Xx (Dx hs) (Dx hq) (fun e => by rw [e] at hsq; simp at hsq) (ZF (A := A) (C := C)) rfl rfl (bw h)
theorem gDs {q b n : Nat} {u : Value} (hs : lk L b = some (.tok u)) (hq : lk L q = some (.gh [u] [.own e n (l.flatMap f)])) (hsq : Nat.beq b q = false) (hn : n = l.length)
    (h : K (ofL ((q,.undef) :: (b,.own e l.length (l.flatMap f)) :: L))) : Gh P nt bx (ofL L) K := by
  subst hn
  exact Xx (Dx hs) (Dx hq) (fun e => by rw [e] at hsq; simp at hsq) ZG rfl rfl (bw h)
theorem gSb {q b : Nat} (A C : List V) (hs : lk L b = some (.box (A ++ .own e l.length (l.flatMap f) :: C))) (hq : lk L q = none) (hsq : Nat.beq b q = false) (h1 : ∀ x,IOQ (f x) = true)
    (h : ∀ (U : Nat -> Value) (us : List Value),(∀ i,i < l.length -> U i = us.getD i undef) -> K (ofL ((q,.gh us (l.map fun x => Kv (f x))) :: (b,.box (A ++ .own e (AC 0 l).length ((AC 0 l).flatMap (pE f U)) :: C)) :: L))) : Gh P nt bx (ofL L) K :=
  ZP (Dx hs) (by rw [Mz,hq]; rfl) (fun e => by rw [e] at hsq; simp at hsq) (YM h1 (A := A) (C := C)) (fun _ => rfl) (fun _ => rfl) fun U us _ hU => bw (h U us hU)
theorem gJb [BEq α] [LawfulBEq α] {q b n : Nat} {cs : List V} {us : List Value} {U : Nat -> Value} (A C : List V) (L' : List (Nat × α ⊕ α)) (hs : lk L b = some (.box (A ++ .own e n cs :: C))) (hc : V.own e n cs = .own e L'.length (L'.flatMap (mE f U))) (hq : lk L q = some (.gh us (l.map fun x => Kv (f x)))) (hsq : Nat.beq b q = false) (h1 : ∀ x,IOQ (f x) = true) (hU : ∀ i,i < l.length -> U i = us.getD i undef) (hok : okJ l L' [] = true)
    (h : K (ofL ((q,.undef) :: (b,.box (A ++ .own e (L'.map getM).length ((L'.map getM).flatMap f) :: C)) :: L))) : Gh P nt bx (ofL L) K :=
  cY (Dx (by rw [hs,hc])) (Dx hq) rfl (fun e => by rw [e] at hsq; simp at hsq) (ZW h1 (A := A) (C := C)) hU hok rfl rfl (bw h)
variable {β : Type} {f2 : β -> List V} {l2 : List β} {e2 : TypeId} {n : Nat} {u1 : Value} {y0 : α} {i : Int} {es : Nat}
end
def o0 (S : List Nat) : Operand -> Bool
  | .tmp p => S.contains p
  | .const (.int _ _) => true
  | .const (.bool _) => true
  | .const (.string _) => true
  | _ => false
theorem qPo {d : Nat} {f : FuncId} {args : Array Operand} {ts : Array TypeId} {xs : List Operand} {p : Nat} {as cs cs' : List V} {L1 : PL} (S : List Nat) (ha : args.toList = .tmp p :: xs) (hs : lk L p = some (.box cs)) (hpl : cs.all KP = false) (hx : (!S.contains p && xs.all (o0 S)) = true) (he : erA (ofL L) xs as) (hd : AX cs = true) (hp : co P f cs as cs') (hk : Ws L S = some L1) (hsf : sfY L1) (k : K (ofL ((d,.tup []) :: (p,.box cs') :: L1))) (hc : cns.contains d = false := by rfl) :
    evO P tb cns ⟨some d,.call { callee := .value (.func f),args := args,argTypes := ts },t,none⟩ (ofL L) K := by
  obtain ⟨h1,h2⟩ := Xl he
  subst h2
  rw [Bool.and_eq_true,Bool.not_eq_true'] at hx
  show KB P cns _ f args.toList (ofL L) K
  unfold KB
  rw [if_neg (by simpa using hc)]
  refine .inr (.inr ⟨p,xs,cs,cs',TQ L (p :: S),ha,Dx hs,hpl,hd,?_,hp,?_,fun q hq => ?_,?_⟩)
  · rw [List.all_eq_true] at h1 ⊢
    intro x hxm
    rw [Bool.and_eq_true]
    refine ⟨h1 x hxm,?_⟩
    have := List.all_eq_true.1 hx.2 x hxm
    unfold o0 at this
    split at this
    · rename_i q
      simp only [kg,Bool.not_eq_true']
      cases hc : (TQ L (p :: S)).contains q with
      | false => rfl
      | true => exact absurd (List.mem_cons_of_mem _ (by simpa using this)) (LX.1 hc).2
    · rfl
    · rfl
    · rfl
    · cases this
  · cases hc : (TQ L (p :: S)).contains p with
    | false => rfl
    | true => exact absurd (List.mem_cons_self) (LX.1 hc).2
  · by_cases hD : (TQ L (p :: S)).contains q = true
    · exact .inl hD
    · right
      by_cases hm : q ∈ L.map (·.1)
      · have hS : q ∈ S := Classical.byContradiction fun h => hD (LX.2 ⟨hm,fun h' => (List.mem_cons.1 h').elim hq h⟩)
        obtain ⟨L',k1,k2⟩ := Aa hk
        obtain ⟨_,k2⟩ := BL k2
        cases k2
        rw [Dx ((Pf k1).1 q hS)]
        exact VR hsf q
      · rw [R4 hm]; rfl
  · have e4 : upd (kill (TQ L (p :: S)) (ofL L)) p (.box cs') = ofL ((p,.box cs') :: L1) := by
      rw [FC]
      funext q
      by_cases hq : q = p
      · subst hq; rw [upd_same,upd_same]
      · rw [upd_ne _ _ hq,upd_ne _ _ hq]; exact Qa hk hq
    show K (upd (upd (kill (TQ L (p :: S)) (ofL L)) p (.box cs')) d (.tup []))
    rw [e4]
    exact k
theorem qCi {d : Nat} {f : FuncId} {args : Array Operand} {ts : Array TypeId} {a r : V} (ha : args.toList = [x]) (hx : opO L x = some a) (hi : a.isArg = true) (hs : Ai P f [a] r) (k : K (ofL ((d,r) :: L))) (hc : cns.contains d = false := by rfl) : evO P tb cns ⟨some d,.call { callee := .value (.func f),args := args,argTypes := ts },t,none⟩ (ofL L) K := by
  show KB P cns _ f args.toList (ofL L) K
  unfold KB
  rw [if_neg (by simpa using hc)]
  refine .inl ⟨?_,r,.inr (.inr ?_),k⟩
  · rw [ha,List.all_cons,Cb hx,hi]; rfl
  · rw [ha,List.map_cons,Cb hx]; exact hs
theorem WC (htb : JY P tb) {f : FuncId} {nt : Nat} {bx : List Nat} {rs : List ResultVar} {l : LC} {args : List V} {r : V} (hl : Lit P f nt bx rs l) (hlen : args.length <= nt) (hargs : args.all Hd = true) (hr : ZB r = true) (h : LS P nt bx l (Ja (args.map NX)) (kt tb rs r)) : Ai P f args r := by
  obtain ⟨⟨fn,c,h1,h2,h3,rfl,rfl,h6,h7⟩,hn,hL⟩ := hl
  exact YK htb h1 h2 h3 bx hlen hargs hr hn (h c h6 h7 hL)
end
def H4 {α : Type} (x : List (Nat × α)) : List (Nat × α ⊕ α) := x.map Sum.inl
def Pe {α : Type} (x : List α) : List (Nat × α ⊕ α) := x.map Sum.inr
theorem Qc {α : Type} {x : List (Nat × α)} : x.length = (H4 x).length := (List.length_map _).symm
theorem Wt {α : Type} {x : List α} : x.length = (Pe x).length := (List.length_map _).symm
theorem W1 {α : Type} {f : α -> List V} {U : Nat -> Value} {x : List (Nat × α)} : x.flatMap (pE f U) = (H4 x).flatMap (mE f U) := by unfold H4; rw [List.flatMap_map]; rfl
theorem fU {α : Type} {f : α -> List V} {U : Nat -> Value} {x : List α} : x.flatMap f = (Pe x).flatMap (mE f U) := by unfold Pe; rw [List.flatMap_map]; rfl
theorem UB {α : Type} {f : α -> List V} {U : Nat -> Value} {e : TypeId} {x : List (Nat × α)} : V.own e x.length (x.flatMap (pE f U)) = .own e (H4 x).length ((H4 x).flatMap (mE f U)) := by rw [<- Qc,<- W1]
theorem qA2 {P : Program} {tb : Tb} {cns : List Nat} {L : PL} {K : PS -> Prop} {s d t : Nat} {α : Type} (f : α -> List V) (l m : List α) {n0 m0 es p q : Nat} {e : TypeId} {cs0 ds : List V} {c : V} {L2 : PL} (h : l9 tb L s p q = some (n0,cs0,es,m0,ds,c,L2)) (he : lk L p = some (.own e n0 cs0)) (hd : ds.length = m0 * es) (h1 : n0 = l.length) (h2 : cs0 = l.flatMap f) (h3 : m0 = m.length) (ha : UX c = m.flatMap f) (hl : l.length + m.length <= lim)
    (k : K (ofL ((d,.own e (l ++ m).length ((l ++ m).flatMap f)) :: L2))) : evO P tb cns ⟨some d,.call { callee := .builtin .append,args := #[.tmp p,.tmp q],argTypes := #[s,s] },t,none⟩ (ofL L) K := by
  subst h1 h2 h3
  exact qA f l m h he hd ha hl k
theorem dcn : AX [] = true := rfl
theorem dcc {c : V} {cs : List V} (h : deep c = true) (k : AX cs = true) : AX (c :: cs) = true := by rw [AX,h,k]; rfl
theorem dcf {α : Type} {f : α -> List V} (h : ∀ x,AX (f x) = true) (l : List α) : AX (l.flatMap f) = true := PP.2 fun c hc => by
  obtain ⟨a,_,hc⟩ := List.mem_flatMap.1 hc
  exact PP.1 (h a) c hc
theorem dco {α : Type} {f : α -> List V} (h : ∀ x,AX (f x) = true) (e : TypeId) (l : List α) : deep (.own e l.length (l.flatMap f)) = true := by rw [deep]; exact dcf h l
theorem dag {cs : List V} (h : AX cs = true) : deep (.agg cs) = true := by rw [deep]; exact h
theorem PB : ∀ {cs : List V},E8 cs = true ↔ ∀ c ∈ cs,LB c = true
  | [] => by simp [E8]
  | c :: cs => by rw [E8,Bool.and_eq_true,PB (cs := cs)]; simp
theorem acc {c : V} {cs : List V} (h : LB c = true) (k : E8 cs = true) : E8 (c :: cs) = true := by rw [E8,h,k]; rfl
theorem acf {α : Type} {f : α -> List V} (h : ∀ x,E8 (f x) = true) (l : List α) : E8 (l.flatMap f) = true := PB.2 fun c hc => by
  obtain ⟨a,_,hc⟩ := List.mem_flatMap.1 hc
  exact PB.1 (h a) c hc
theorem aca {α : Type} {f : α -> List V} (h : ∀ x,E8 (f x) = true) (l : List α) : LB (.arg l.length (l.flatMap f)) = true := by rw [LB]; exact acf h l
theorem sO {c : V} (h : deep c = true) : Lz c = true := kI h
theorem sA {c : V} (h : LB c = true) : Lz c = true := cf h
theorem snc {c : V} {cs : List V} (h : Lz c = true) (k : cs.all Lz = true) : (c :: cs).all Lz = true := by rw [List.all_cons,h,k]; rfl
theorem bcc {c : V} {cs : List V} (h : NW c = true) (k : BT cs = true) : BT (c :: cs) = true := by rw [BT,h,k]; rfl
theorem vag {cs cs' : List V} (h : IU cs = cs') : NX (.agg cs) = .agg cs' := by rw [NX,h]
theorem SN {c : V} {cs : List V} (h : Hd c = true) (k : cs.all Hd = true) : (c :: cs).all Hd = true := by rw [List.all_cons,h,k]; rfl
theorem mvv {c c' : V} {cs cs' : List V} (h : NX c = c') (k : cs.map NX = cs') : (c :: cs).map NX = c' :: cs' := by rw [List.map_cons,h,k]
theorem vcc {c c' : V} {cs cs' : List V} (h : NX c = c') (k : IU cs = cs') : IU (c :: cs) = c' :: cs' := by rw [IU,h,k]
theorem ST : ∀ (a b : List V),IU (a ++ b) = IU a ++ IU b
  | [],_ => rfl
  | c :: a,b => by rw [List.cons_append,IU,IU,ST a b,List.cons_append]
theorem Q5 {α : Type} {f g : α -> List V} (h : ∀ x,IU (f x) = g x) : ∀ l : List α,IU (l.flatMap f) = l.flatMap g
  | [] => rfl
  | x :: l => by rw [List.flatMap_cons,List.flatMap_cons,ST,h,Q5 h l]
theorem LD {α : Type} {f g : α -> List V} (h : ∀ x,IU (f x) = g x) (l : List α) : NX (.dat l.length (l.flatMap f)) = .arg l.length (l.flatMap g) := by rw [NX,Q5 h]
theorem UV : ∀ {a b : List V},BT a = true -> BT b = true -> BT (a ++ b) = true
  | [],_,_,h => h
  | c :: a,b,h,k => by
    rw [BT,Bool.and_eq_true] at h
    rw [List.cons_append,BT,h.1,UV h.2 k]; rfl
theorem SS {α : Type} {f : α -> List V} (h : ∀ x,BT (f x) = true) : ∀ l : List α,BT (l.flatMap f) = true
  | [] => rfl
  | x :: l => by rw [List.flatMap_cons]; exact UV (h x) (SS h l)
theorem Gm {α : Type} {f : α -> List V} (h : ∀ x,BT (f x) = true) (l : List α) : NW (.dat l.length (l.flatMap f)) = true := SS h l
end Go.Proofs.YtpcbnmcfplioeaaGreat
namespace Go.Proofs.YtpcbnmcfplioeaaGreat
open Go.RowKit
set_option linter.unusedVariables false
section
variable {P : Program} {w : World} {St St' : Nat -> Nat -> Prop}
end
section
variable {P : Program} {w : World} {St St' : Nat -> Nat -> Prop}
end
section
variable {P : Program} {nt : Nat} {bx : List Nat} {σ : PS} {K : PS -> Prop}
end
section
variable {P : Program} {nt : Nat} {bx : List Nat} {K : PS -> Prop} {L : PL} {α : Type} {f g : α -> List V} {l : List α} {e : TypeId}
end
end Go.Proofs.YtpcbnmcfplioeaaGreat
