/-
 A machine on data, part 2a: code and its rules. Over no program; no conditions.
-/
import Derived.Test.YtkclaipnejgloaaGreatDoorKa
namespace Go.Proofs.YtkclaipnejgloaaGreatDoor
open Go.RowKit
set_option linter.unusedVariables false
def O2 (w : World) (St : Nat -> Nat -> Prop) : List V -> List Value -> Prop
 | [],us => us = []
 | c :: cs,us => ∃ u us',us = u :: us' ∧ RdA w St c u ∧ O2 w St cs us'
def Ret (P : Program) (w : World) (St : Nat -> Nat -> Prop) (r : V) (e : Ending) (w' : World) : Prop :=
 ∃ v bs St',e = .returned v ∧ Below w.heap.size w w' ∧ (∀ b o,b < w.heap.size -> (St' b o ↔ St b o)) ∧ (∀ b o,St' b o -> b < w'.heap.size) ∧ Ow P w' St' r v bs ∧ bs.Nodup ∧ ∀ g ∈ bs,w.heap.size <= g ∧ g < w'.heap.size
def Lc : V -> Bool
 | .int .. | .bool .. | .str .. | .dat .. | .arg .. | .fn .. | .tok .. => true
 | _ => false
def QX : V -> Bool
 | .agg cs => cs.all Lc
 | c => Lc c
theorem QY {P : Program} {w : World} {St : Nat -> Nat -> Prop} : ∀ {cs : List V} {us : List Value} {bs : List Nat},cs.all Lc = true -> AC P w St cs us bs -> bs = []
 | [],_,_,_,h => h.2
 | c :: cs,_,_,hp,⟨u,us',b1,b2,e1,e2,hc,h1,h2⟩ => by
  simp only [List.all_cons,Bool.and_eq_true] at hp
  have e3 : b1 = []:=by cases c <;> first | exact h1.1 | (exfalso; exact absurd hp.1 (by simp [Lc]))
  rw [e2,e3,QY hp.2 h2]; rfl
def kg (P : Program) (w : World) (St : Nat -> Nat -> Prop) (g : Nat) (cs' : List V) (r : V) (e : Ending) (w' : World) : Prop :=
 ∃ v bs St' T,∃ arr : Array Value,e = .returned v ∧ BelowK (fun b => b < w.heap.size ∧ b ≠ g) w w' ∧ (∀ b o,b < w.heap.size -> (St' b o ↔ St b o)) ∧ (∀ b o,St' b o -> b < w'.heap.size) ∧
  w'.heap[g]? = some (.cells arr T (0,0)) ∧ AC P w' St' cs' arr.toList [] ∧ Ow P w' St' r v bs ∧ bs.Nodup ∧ ∀ k ∈ bs,w.heap.size <= k ∧ k < w'.heap.size
def Me (P : Program) (f : FuncId) : Prop := ∃ fn,P.funcs[f]? = some fn ∧ fn.body.isNone = false ∧ (fn.name == "runtime.NumGoroutine") = false
def Ag (P : Program) (f : FuncId) (args : List V) (r : V) : Prop :=
 Me P f ∧ ∀ w St (vs : List Value),(∀ b o,St b o -> b < w.heap.size) -> Glb w St -> O2 w St args vs -> Calls P f vs.toArray w (Ret P w St r)
def az (P : Program) (f : FuncId) (cs args cs' : List V) (r : V) : Prop :=
 Me P f ∧ ∀ w St (g : Nat) T (arr : Array Value) (vs : List Value),(∀ b o,St b o -> b < w.heap.size) -> Glb w St -> w.heap[g]? = some (.cells arr T (0,0)) -> AC P w St cs arr.toList [] -> (∀ o,¬ St g o) -> O2 w St args vs ->
  Calls P f (Value.pointer (some ⟨g,0,none⟩) :: vs).toArray w (kg P w St g cs' r)
def kf (P : Program) (w : World) (St : Nat -> Nat -> Prop) (g : Nat) (bs0 : List Nat) (cs' : List V) (e : Ending) (w' : World) : Prop :=
 ∃ v bs St' T,∃ arr : Array Value,e = .returned v ∧ BelowK (fun b => b < w.heap.size ∧ b ∉ g :: bs0) w w' ∧ (∀ b o,b < w.heap.size -> b ∉ bs0 -> (St' b o ↔ St b o)) ∧ (∀ b o,St' b o -> b < w'.heap.size) ∧
  w'.heap[g]? = some (.cells arr T (0,0)) ∧ AC P w' St' cs' arr.toList bs ∧ Ow P w' St' (.tup []) v [] ∧ (g :: bs).Nodup ∧ ∀ k ∈ bs,(k ∈ bs0 ∨ w.heap.size <= k) ∧ k < w'.heap.size
def jT (P : Program) (f : FuncId) (cs args cs' : List V) : Prop :=
 Me P f ∧ ∀ w St (g : Nat) T (arr : Array Value) (bs0 : List Nat) (vs : List Value),(∀ b o,St b o -> b < w.heap.size) -> Glb w St -> w.heap[g]? = some (.cells arr T (0,0)) -> AC P w St cs arr.toList bs0 -> (g :: bs0).Nodup -> (∀ k ∈ bs0,k < w.heap.size) -> (∀ o,¬ St g o) -> O2 w (fun b o => St b o ∧ b ∉ bs0) args vs ->
  Calls P f (Value.pointer (some ⟨g,0,none⟩) :: vs).toArray w (kf P w St g bs0 cs')
def NewAt (P : Program) (f : FuncId) (args cs : List V) : Prop :=
 Me P f ∧ ∀ w St (vs : List Value),(∀ b o,St b o -> b < w.heap.size) -> Glb w St -> O2 w St args vs -> Calls P f vs.toArray w fun e w' =>
  ∃ g T St',∃ arr : Array Value,e = .returned (.pointer (some ⟨g,0,none⟩)) ∧ Below w.heap.size w w' ∧ (∀ b o,b < w.heap.size -> (St' b o ↔ St b o)) ∧ (∀ b o,St' b o -> b < w'.heap.size) ∧
   w'.heap[g]? = some (.cells arr T (0,0)) ∧ AC P w' St' cs arr.toList [] ∧ (∀ o,¬ St' g o) ∧ w.heap.size <= g ∧ g < w'.heap.size
section
variable {P : Program} {nt : Nat} {base : Bs} {bx : List Nat} {St St' St0 : Nat -> Nat -> Prop} {B : Nat -> List Nat} {hand : List Nat} {σ σ' : PS} {a : Act} {w w' w0 : World} {K : PS -> Prop} {Q : Exit -> Act -> World -> Prop} {o : Oper}
theorem Rs (h : HSim P nt bx base St B hand σ a w) : ∀ (xs : List Operand),xs.all (fun x => (opV σ x).isArg) = true -> O2 w St (xs.map fun x => er (opV σ x)) (xs.map a.eval)
 | [],_ => rfl
 | x :: xs,hv => by
  simp only [List.all_cons,Bool.and_eq_true] at hv
  obtain ⟨b,hx⟩:=Lp h x
  exact ⟨a.eval x,xs.map a.eval,rfl,((hx.ow (Hj hv.1)).rda hv.1).erase,Rs h xs hv.2⟩
def erK : V -> V
 | .arg n cs => .arg n cs
 | c => er c
theorem Pr (h : HSim P nt bx base St B hand σ a w) : ∀ (xs : List Operand),xs.all (fun x => (opV σ x).isArg) = true -> O2 w St (xs.map fun x => erK (opV σ x)) (xs.map a.eval)
 | [],_ => rfl
 | x :: xs,hv => by
  simp only [List.all_cons,Bool.and_eq_true] at hv
  obtain ⟨b,hx⟩:=Lp h x
  have h0:=(hx.ow (Hj hv.1)).rda hv.1
  have h1 : RdA w St (erK (opV σ x)) (a.eval x):=by
   generalize opV σ x = c at h0
   cases c <;> first | exact h0 | exact h0.erase
  exact ⟨a.eval x,xs.map a.eval,rfl,h1,Pr h xs hv.2⟩
theorem Sp (h : HSim P nt bx base St B hand σ a w) : ∀ (xs : List Operand),xs.all (fun x => (opV σ x).isArg) = true -> O2 w St (xs.map fun x => opV σ x) (xs.map a.eval)
 | [],_ => rfl
 | x :: xs,hv => by
  simp only [List.all_cons,Bool.and_eq_true] at hv
  obtain ⟨b,hx⟩:=Lp h x
  exact ⟨a.eval x,xs.map a.eval,rfl,(hx.ow (Hj hv.1)).rda hv.1,Sp h xs hv.2⟩
def XA (P : Program) (σ : PS) (f : FuncId) (args : List Operand) (r : V) : Prop:=Ag P f (args.map fun x => er (opV σ x)) r ∨ Ag P f (args.map fun x => erK (opV σ x)) r ∨ Ag P f (args.map fun x => opV σ x) r
def TY (σ : PS) (d : Option Tmp) (r : V) : PS:=match d with
 | some d => upd σ d r
 | none => σ
theorem S4 {f : FuncId} {cal : Operand} {args : Array Operand} {ts : Array TypeId} {r : V} (hcv : opV σ cal = .fn f) (hop : o.op = .call { callee:=.value cal,args:=args,argTypes:=ts }) (hargs : args.toList.all (fun x => (opV σ x).isArg) = true)
  (hs : XA P σ f args.toList r) (hd : ∀ d,o.dst = some d -> d < nt ∧ d ∉ bx) (hk : K (TY σ o.dst r)) : OpS P nt bx base St0 w0 o σ K:=by
 rintro a w Q ⟨St,B,h,hb,hst,hz⟩
 have hs' : Me P f ∧ Calls P f (args.toList.map a.eval).toArray w (Ret P w St r):=hs.elim (fun h1 => ⟨h1.1,h1.2 w St _ h.st h.gl (Rs h _ hargs)⟩) (fun h0 => h0.elim (fun h1 => ⟨h1.1,h1.2 w St _ h.st h.gl (Pr h _ hargs)⟩) (fun h1 => ⟨h1.1,h1.2 w St _ h.st h.gl (Sp h _ hargs)⟩))
 obtain ⟨⟨fn,hf,hbody,hname⟩,hcall⟩:=hs'
 have hr : (execOp a.eval o).run P w = .ok (.enter f (args.toList.map a.eval).toArray) w:=by
  have e1 : (args.toList.map a.eval).toArray = args.map a.eval:=by rw [<- Array.toList_map,Array.toArray_toList]
  have e2 : a.eval cal = .func (.func f) #[] #[]:=by
   obtain ⟨b,hs⟩:=Lp h cal
   rw [hcv] at hs
   exact hs.2
  rw [e1]
  simp only [execOp,hop,resolve,e2,Deferred.ofValue,Sem.run_bind,Sem.run_pure,Result.andThen_ok,invoke,callFunc,run_program,Array.append_empty,Array.empty_append,hf,hbody,hname]
  simp
 unfold Oper.wp
 rw [hr,Oper.upon_enter]
 refine hcall.mono ?_
 rintro e w1 ⟨v,bs,St1,rfl,h1,h2,h3,h4,h5,h6⟩
 refine ⟨_,hk,?_⟩
 have g1:=h.grow (w':=w1) (St':=St1) h1 h2 h3
 have g2:=g1.fresh (bs:=bs) h5 (fun g hg => ⟨fun h' => by have:=hz g h'; have:=(h6 g hg).1; omega,(h6 g hg).2⟩) (fun s g hg hm => by have:=(h.range s g hg).2; have:=(h6 g hm).1; omega) (by simp)
 have hst1 : ∀ b o',base b -> (St1 b o' ↔ St0 b o'):=fun b o' hlt => (h2 b o' (hz b hlt)).trans (hst b o' hlt)
 cases hdst : o.dst with
 | none => exact ⟨St1,B,g2.less List.nodup_nil (by simp),hb.below h1 hz,hst1,QG hz h1.size⟩
 | some d =>
  obtain ⟨hd1,hd2⟩:=hd d hdst
  exact ⟨St1,upd B d bs,g2.put hd1 hd2 h4.slot h5 (by simp) h4.B9.1 h4.MF,hb.below h1 hz,hst1,QG hz h1.size⟩
theorem HSim.kt (h : HSim P nt bx base St B hand σ a w) {s g : Nat} {cs cs' : List V} (hs : σ s = .box cs) (hB : B s = [g]) (hng : ∀ o,¬ St g o) (hb : BelowK (fun b => b < w.heap.size ∧ b ≠ g) w w')
  (hst : ∀ b o,b < w.heap.size -> (St' b o ↔ St b o)) (hst' : ∀ b o,St' b o -> b < w'.heap.size) (hc : A3 P w' St' (tm a) (.box cs') (tm a s) [g]) : HSim P nt bx base St' B hand (upd σ s (.box cs')) a w' :=
 have hbox : ∀ b,(∃ cs,EM (σ b) = some cs) -> ∃ cs'',EM (upd σ s (.box cs') b) = some cs'':=fun b ⟨cs,e⟩ => by
  by_cases eb : b = s
  ·subst eb; exact ⟨cs',by rw [upd_same]; rfl⟩
  ·exact ⟨cs,by rw [upd_ne _ _ eb]; exact e⟩
 { h with
  slot:=fun q => by
   by_cases e : q = s
   ·subst e; rw [upd_same,hB]; exact hc
   ·rw [upd_ne _ _ e]
    refine (h.slot q).mono (fun b o hs => (hst b o (h.st b o hs)).2 hs) (fun b o hs => ?_) (fun k hk => ⟨hb.block k ⟨(h.range q k hk).2,fun ek => ?_⟩,fun o => hst k o (h.range q k hk).2⟩) (fun _ _ => rfl)
    ·exact World.cell?_of_block (hb.block b ⟨h.st b o hs,fun eb => hng o (eb ▸ hs)⟩)
    ·subst ek; exact h.apart q s e k hk (by rw [hB]; simp)
  boxes:=fun q cs e => by
   by_cases eq : q = s
   ·subst eq; exact h.boxes _ _ (by rw [hs]; rfl)
   ·rw [upd_ne _ _ eq] at e; exact h.boxes q cs e
  crefs:=fun q b e => by
   by_cases eq : q = s
   ·subst eq; rw [upd_same] at e; cases e
   ·rw [upd_ne _ _ eq] at e; exact hbox b (h.crefs q b e)
  range:=fun q k hk => ⟨(h.range q k hk).1,Nat.lt_of_lt_of_le (h.range q k hk).2 hb.size⟩
  hrange:=fun k hk => ⟨(h.hrange k hk).1,Nat.lt_of_lt_of_le (h.hrange k hk).2 hb.size⟩
  st:=hst'
  gl:=h.gl.of (fun b hg o => (hst b o (h.st b o (hg o))).2 (hg o)) (fun b o hg => World.cell?_of_block (hb.block b ⟨h.st b o (hg o),fun eb => hng o (eb ▸ hg o)⟩)) }
theorem RN (h : HSim P nt bx base St B hand σ a w) {f : FuncId} {cal : Operand} (hcv : opV σ cal = .fn f) : a.eval cal = .func (.func f) #[] #[]:=by
 obtain ⟨b,hs⟩:=Lp h cal
 rw [hcv] at hs
 exact hs.2
theorem NG {f : FuncId} {cal : Operand} {args : Array Operand} {ts : Array TypeId} (hop : o.op = .call { callee:=.value cal,args:=args,argTypes:=ts }) (e2 : a.eval cal = .func (.func f) #[] #[]) (hb : Me P f) : (execOp a.eval o).run P w = .ok (.enter f (args.toList.map a.eval).toArray) w:=by
 obtain ⟨fn,hf,hbody,hname⟩:=hb
 have e1 : (args.toList.map a.eval).toArray = args.map a.eval:=by rw [<- Array.toList_map,Array.toArray_toList]
 rw [e1]
 simp only [execOp,hop,resolve,e2,Deferred.ofValue,Sem.run_bind,Sem.run_pure,Result.andThen_ok,invoke,callFunc,run_program,Array.append_empty,Array.empty_append,hf,hbody,hname]
 simp
theorem Vq {f : FuncId} {cal : Operand} {args : Array Operand} {ts : Array TypeId} {x : Operand} {xs : List Operand} {s : Nat} {cs cs' : List V} {r : V} (hcv : opV σ cal = .fn f) (hop : o.op = .call { callee:=.value cal,args:=args,argTypes:=ts }) (he : args.toList = x :: xs) (hax : adV σ x = .cref s 0) (hs : σ s = .box cs) (hpl : cs.all Lc = true)
  (hargs : xs.all (fun x => (opV σ x).isArg) = true) (hp : az P f cs (xs.map fun x => er (opV σ x)) cs' r) (hd : ∀ d,o.dst = some d -> d < nt ∧ d ∉ bx) (hk : K (TY (upd σ s (.box cs')) o.dst r)) : OpS P nt bx base St0 w0 o σ K:=by
 rintro a w Q ⟨St,B,h,hb,hst,hz⟩
 obtain ⟨g,T,bs',arr,q1,q2,q3,q4,q5,q6⟩:=JI h hax (cs:=cs) (by rw [hs]; rfl)
 have hnil:=QY hpl q4
 subst hnil
 have hcall:=hp.2 w St g T arr (xs.map a.eval) h.st h.gl q3 q4 q6 (Rs h _ hargs)
 have hr:=NG (P:=P) (a:=a) (w:=w) hop (RN h hcv) hp.1
 rw [he,List.map_cons,q1] at hr
 unfold Oper.wp
 rw [hr,Oper.upon_enter]
 refine hcall.mono ?_
 rintro e w1 ⟨v,bs,St1,T1,arr1,rfl,h1,h2,h3,h4,h5,h6,h7,h8⟩
 refine ⟨_,hk,?_⟩
 have hgr:=h.range s g (by rw [q5]; simp)
 have hpt : tm a s = .pointer (some ⟨g,0,none⟩):=by
  have:=h.slot s
  rw [hs] at this
  obtain ⟨g',_,_,_,e1,_⟩:=this
  rw [e1] at q2
  simp only [Qw,Option.some.injEq] at q2
  rw [e1,q2]
 have hng : ∀ o,¬ St1 g o:=fun o ho => q6 o ((h2 g o hgr.2).1 ho)
 have g1:=h.kt (w':=w1) (St':=St1) (cs':=cs') hs q5 q6 h1 h2 h3 ⟨g,T1,[],arr1,hpt,h4,h5,rfl,hng⟩
 have g2:=g1.fresh (bs:=bs) h7 (fun k hk => ⟨fun h' => by have:=hz k h'; have:=(h8 k hk).1; omega,(h8 k hk).2⟩) (fun q k hk hm => by have:=(h.range q k hk).2; have:=(h8 k hm).1; omega) (by simp)
 have hbel : BelowK base.K w0 w1:=hb.trans ⟨h1.os,h1.tape,h1.output,h1.size,fun k hk => h1.block k ⟨hz k hk,fun e => hgr.1 (e ▸ hk)⟩⟩
 have hst1 : ∀ b o',base b -> (St1 b o' ↔ St0 b o'):=fun b o' hlt => (h2 b o' (hz b hlt)).trans (hst b o' hlt)
 cases hdst : o.dst with
 | none => exact ⟨St1,B,g2.less List.nodup_nil (by simp),hbel,hst1,QG hz h1.size⟩
 | some d =>
  obtain ⟨hd1,hd2⟩:=hd d hdst
  exact ⟨St1,upd B d bs,g2.put hd1 hd2 h6.slot h7 (by simp) h6.B9.1 h6.MF,hbel,hst1,QG hz h1.size⟩
theorem HSim.fN (h : HSim P nt bx base St B [] σ a w) {s g : Nat} {bs0 bs : List Nat} {cs cs' : List V} (hs : σ s = .box cs) (hB : B s = g :: bs0) (hng : ∀ o,¬ St g o) (hd : ∀ k ∈ bs0,∃ o,¬ St k o) (hb : BelowK (fun b => b < w.heap.size ∧ b ∉ g :: bs0) w w')
  (hst : ∀ b o,b < w.heap.size -> b ∉ bs0 -> (St' b o ↔ St b o)) (hst' : ∀ b o,St' b o -> b < w'.heap.size) (hsafe : ∀ q,q ≠ s -> OU (σ q) = true) (hn : (g :: bs).Nodup) (hbs : ∀ k ∈ bs,(k ∈ bs0 ∨ w.heap.size <= k) ∧ k < w'.heap.size) (hz : ∀ b,base b -> b < w.heap.size)
  (hc : A3 P w' St' (tm a) (.box cs') (tm a s) (g :: bs)) : HSim P nt bx base St' (upd B s (g :: bs)) [] (upd σ s (.box cs')) a w' :=
 have hbox : ∀ b,(∃ cs,EM (σ b) = some cs) -> ∃ cs'',EM (upd σ s (.box cs') b) = some cs'':=fun b ⟨cs,e⟩ => by
  by_cases eb : b = s
  ·subst eb; exact ⟨cs',by rw [upd_same]; rfl⟩
  ·exact ⟨cs,by rw [upd_ne _ _ eb]; exact e⟩
 have hf : FrB (g :: bs0) w w':=⟨hb.os,hb.tape,hb.output,hb.size,fun k hk hn => hb.block k ⟨hk,hn⟩⟩
 have hoff : ∀ q,q ≠ s -> ∀ k ∈ B q,k ∉ g :: bs0:=fun q e k hk hm => h.apart q s e k hk (by rw [hB]; exact hm)
 have hin : ∀ q,q ≠ s -> ∀ k ∈ B q,k ∉ g :: bs:=fun q e k hk hm => by
  rcases List.mem_cons.1 hm with rfl | hm
  ·exact hoff q e k hk (List.mem_cons_self)
  ·rcases (hbs k hm).1 with h1 | h1
   ·exact hoff q e k hk (List.mem_cons_of_mem _ h1)
   ·have:=(h.range q k hk).2; omega
 { h with
  slot:=fun q => by
   by_cases e : q = s
   ·subst e; rw [upd_same,upd_same]; exact hc
   ·rw [upd_ne _ _ e,upd_ne _ _ e]
    refine L0 hf (fun k hk => ?_) h.st (fun k o hk hs => (hst k o (h.st k o hs) (fun hm => hk (List.mem_cons_of_mem _ hm))).2 hs) (hsafe q e) (h.slot q) (fun k hk => ⟨hb.block k ⟨(h.range q k hk).2,hoff q e k hk⟩,fun o => hst k o (h.range q k hk).2 (fun hm => hoff q e k hk (List.mem_cons_of_mem _ hm))⟩)
    rcases List.mem_cons.1 hk with rfl | hk
    ·exact ⟨0,hng 0⟩
    ·exact hd k hk
  boxes:=fun q cs e => by
   by_cases eq : q = s
   ·subst eq; exact h.boxes _ _ (by rw [hs]; rfl)
   ·rw [upd_ne _ _ eq] at e; exact h.boxes q cs e
  crefs:=fun q b e => by
   by_cases eq : q = s
   ·subst eq; rw [upd_same] at e; cases e
   ·rw [upd_ne _ _ eq] at e; exact hbox b (h.crefs q b e)
  nodup:=fun q => by
   by_cases e : q = s
   ·subst e; rw [upd_same]; exact hn
   ·rw [upd_ne _ _ e]; exact h.nodup q
  apart:=fun q r hqr k hk hk' => by
   by_cases e : q = s
   ·subst e; rw [upd_same] at hk; rw [upd_ne _ _ (Ne.symm hqr)] at hk'; exact hin r (Ne.symm hqr) k hk' hk
   ·rw [upd_ne _ _ e] at hk
    by_cases e' : r = s
    ·subst e'; rw [upd_same] at hk'; exact hin q e k hk hk'
    ·rw [upd_ne _ _ e'] at hk'; exact h.apart q r hqr k hk hk'
  hnodup:=List.nodup_nil
  hapart:=fun _ _ _ => by simp
  range:=fun q k hk => by
   by_cases e : q = s
   ·subst e
    rw [upd_same] at hk
    rcases List.mem_cons.1 hk with rfl | hk
    ·have:=h.range q k (by rw [hB]; simp); exact ⟨this.1,Nat.lt_of_lt_of_le this.2 hb.size⟩
    ·refine ⟨?_,(hbs k hk).2⟩
     rcases (hbs k hk).1 with h1 | h1
     ·exact (h.range q k (by rw [hB]; exact List.mem_cons_of_mem _ h1)).1
     ·exact fun hbk => by have:=hz k hbk; omega
   ·rw [upd_ne _ _ e] at hk; exact ⟨(h.range q k hk).1,Nat.lt_of_lt_of_le (h.range q k hk).2 hb.size⟩
  hrange:=by simp
  st:=hst'
  gl:=h.gl.of (fun b hg o => (hst b o (h.st b o (hg o)) fun hm => (hd b hm).elim fun o' ho => ho (hg o')).2 (hg o)) (fun b o hg => World.cell?_of_block (hb.block b ⟨h.st b o (hg o),fun hm => (List.mem_cons.1 hm).elim (fun eb => hng o (eb ▸ hg o)) (fun hm => (hd b hm).elim fun o' ho => ho (hg o'))⟩)) }
def eO (D : List Nat) : Operand -> Bool
 | .tmp p => !D.contains p
 | .const (.int _ _) => true
 | .const (.bool _) => true
 | .const (.string _) => true
 | _ => false
theorem So (h : HSim P nt bx base St B hand σ a w) {s : Nat} {bs0 D : List Nat} (hs : (σ s).isArg = false) (hB : ∀ k ∈ bs0,k ∈ B s) (hd : ∀ k ∈ bs0,∃ o,¬ St k o) (hsafe : ∀ q,q ≠ s -> D.contains q = true ∨ OU (σ q) = true) :
  ∀ (xs : List Operand),xs.all (fun x => (opV σ x).isArg && eO D x) = true -> O2 w (fun b o => St b o ∧ b ∉ bs0) (xs.map fun x => er (opV σ x)) (xs.map a.eval)
 | [],_ => rfl
 | x :: xs,hv => by
  simp only [List.all_cons,Bool.and_eq_true] at hv
  refine ⟨a.eval x,xs.map a.eval,rfl,?_,So h hs hB hd hsafe xs hv.2⟩
  obtain ⟨hv1,hv2⟩:=hv.1
  have key : ∃ b,A3 P w St (tm a) (opV σ x) (a.eval x) b ∧ OU (opV σ x) = true ∧ ∀ k ∈ b,k ∉ bs0:=by
   cases x with
   | tmp p =>
    have hp : p ≠ s:=fun e => by subst e; rw [show opV σ (.tmp p) = σ p from rfl] at hv1; rw [hs] at hv1; cases hv1
    refine ⟨B p,h.slot p,?_,fun k hk hm => h.apart p s hp k hk (hB k hm)⟩
    rcases hsafe p hp with h1 | h1
    ·simp only [eO,h1] at hv2; cases hv2
    ·exact h1
   | const v =>
    refine ⟨[],RA v,?_,by simp⟩
    cases v <;> first | rfl | (cases hv2; done) | skip
    simp only [opV,cV]; split <;> rfl
   | _ => cases hv2
  obtain ⟨b,q1,q2,q3⟩:=key
  have q4:=L0 (FrB.refl bs0 w) hd h.st (St':=fun b o => St b o ∧ b ∉ bs0) (fun k o hk hs => ⟨hs,hk⟩) q2 q1 (fun k hk => ⟨rfl,fun o => ⟨fun h => h.1,fun h => ⟨h,q3 k hk⟩⟩⟩)
  exact ((q4.ow (Hj hv1)).rda hv1).erase
theorem Vp {f : FuncId} {cal : Operand} {args : Array Operand} {ts : Array TypeId} {xs : List Operand} {s : Nat} {cs cs' : List V} {D : List Nat} (hcv : opV σ cal = .fn f) (hop : o.op = .call { callee:=.value cal,args:=args,argTypes:=ts }) (he : args.toList = .tmp s :: xs) (hs : σ s = .box cs) (hdp : JN cs = true)
  (hargs : xs.all (fun x => (opV σ x).isArg && eO D x) = true) (hp : jT P f cs (xs.map fun x => er (opV σ x)) cs') (hD : D.contains s = false) (hsafe : ∀ q,q ≠ s -> D.contains q = true ∨ OU (σ q) = true) (hd : ∀ d,o.dst = some d -> d < nt ∧ d ∉ bx) (hk : K (TY (upd (kill D σ) s (.box cs')) o.dst (.tup []))) : OpS P nt bx base St0 w0 o σ K:=by
 rintro a w Q ⟨St,B,h,hb,hst,hz⟩
 have hsl:=h.slot s
 rw [hs] at hsl
 obtain ⟨g,T,bs0,arr,e1,e2,e3,e4,e5⟩:=hsl
 have hnd:=h.nodup s
 rw [e4] at hnd
 have hsm:=AC.MJ cs hdp e3
 have hrd:=So h (s:=s) (bs0:=bs0) (D:=D) (by rw [hs]; rfl) (fun k hk => by rw [e4]; exact List.mem_cons_of_mem _ hk) hsm hsafe xs hargs
 have hrg : ∀ k ∈ bs0,k < w.heap.size:=fun k hk => (h.range s k (by rw [e4]; exact List.mem_cons_of_mem _ hk)).2
 have hcall:=hp.2 w St g T arr bs0 (xs.map a.eval) h.st h.gl e2 e3 hnd hrg e5 hrd
 have hr:=NG (P:=P) (a:=a) (w:=w) hop (RN h hcv) hp.1
 rw [he,List.map_cons,show a.eval (.tmp s) = tm a s from rfl,e1] at hr
 unfold Oper.wp
 rw [hr,Oper.upon_enter]
 refine hcall.mono ?_
 rintro e w1 ⟨v,bs,St1,T1,arr1,rfl,h1,h2,h3,h4,h5,h6,h7,h8⟩
 refine ⟨_,hk,?_⟩
 obtain ⟨B2,k3,_,hBs⟩:=LG D h
 have hs3 : kill D σ s = .box cs:=by rw [Pd hD (by rw [hs]; rfl)]; exact hs
 have hB3 : B2 s = g :: bs0:=by
  rcases hBs s with e | e
  ·have:=k3.slot s
   rw [hs3] at this
   obtain ⟨_,_,_,_,_,_,_,e',_⟩:=this
   rw [e] at e'; cases e'
  ·rw [e,e4]
 have hgr:=h.range s g (by rw [e4]; simp)
 have hng : ∀ o,¬ St1 g o:=fun o ho => e5 o ((h2 g o hgr.2 (List.nodup_cons.1 hnd).1).1 ho)
 have g1:=k3.fN (w':=w1) (St':=St1) (cs':=cs') (bs:=bs) hs3 hB3 e5 hsm h1 h2 h3 (fun q hq => by
  rcases NZ D σ q with e | e
  ·rw [e]; rfl
  ·cases hc : D.contains q with
   | true => rw [RS hc]; rfl
   | false => rw [e]; exact (hsafe q hq).elim (fun h => by rw [hc] at h; cases h) id) h7 h8 hz ⟨g,T1,bs,arr1,e1,h4,h5,rfl,hng⟩
 have hbel : BelowK base.K w0 w1:=hb.trans ⟨h1.os,h1.tape,h1.output,h1.size,fun k hk => h1.block k ⟨hz k hk,fun hm => (h.range s k (by rw [e4]; exact hm)).1 hk⟩⟩
 have hst1 : ∀ b o',base b -> (St1 b o' ↔ St0 b o'):=fun b o' hlt => (h2 b o' (hz b hlt) (fun hm => (h.range s b (by rw [e4]; exact List.mem_cons_of_mem _ hm)).1 hlt)).trans (hst b o' hlt)
 cases hdst : o.dst with
 | none => exact ⟨St1,_,g1,hbel,hst1,QG hz h1.size⟩
 | some d =>
  obtain ⟨hd1,hd2⟩:=hd d hdst
  exact ⟨St1,_,g1.put hd1 hd2 h6.slot List.nodup_nil (by simp) h6.B9.1 h6.MF,hbel,hst1,QG hz h1.size⟩
theorem Vo {f : FuncId} {cal : Operand} {args : Array Operand} {ts : Array TypeId} {cs : List V} {d : Nat} (hcv : opV σ cal = .fn f) (hop : o.op = .call { callee:=.value cal,args:=args,argTypes:=ts })
  (hargs : args.toList.all (fun x => (opV σ x).isArg) = true) (hp : NewAt P f (args.toList.map fun x => erK (opV σ x)) cs) (ho : o.dst = some d) (hd : d < nt) (hx : d ∈ bx) (hd0 : OF ∈ bx -> d ≠ 0) (hold : EM (σ d) = none) (hk : K (upd σ d (.box cs))) : OpS P nt bx base St0 w0 o σ K:=by
 rintro a w Q ⟨St,B,h,hb,hst,hz⟩
 have hcall:=hp.2 w St (args.toList.map a.eval) h.st h.gl (Pr h _ hargs)
 have hr:=NG (P:=P) (a:=a) (w:=w) hop (RN h hcv) hp.1
 unfold Oper.wp
 rw [hr,Oper.upon_enter]
 refine hcall.mono ?_
 rintro e w1 ⟨g,T,St1,arr,rfl,h1,h2,h3,h4,h5,h6,h7,h8⟩
 refine ⟨_,hk,?_⟩
 have g1:=h.grow (w':=w1) (St':=St1) h1 h2 h3
 have g2:=g1.fresh (bs:=[g]) (by simp) (fun k hk => by simp only [List.mem_singleton] at hk; subst hk; exact ⟨fun h' => by have:=hz k h'; omega,h8⟩) (fun q k hk hm => by simp only [List.mem_singleton] at hm; subst hm; have:=(h.range q k hk).2; omega) (by simp)
 have hst1 : ∀ b o',base b -> (St1 b o' ↔ St0 b o'):=fun b o' hlt => (h2 b o' (hz b hlt)).trans (hst b o' hlt)
 refine ⟨St1,upd B d [g],?_,hb.below h1 hz,hst1,QG hz h1.size⟩
 rw [ho]
 exact g2.Q0 hd hx hd0 hold (c:=.box cs) ⟨g,T,[],arr,rfl,h4,h5,rfl,h6⟩ (by simp) (by simp) rfl
theorem QO {p d s off : Nat} (hop : o.op = .assign (.tmp p) ∨ o.op = .move (.tmp p)) (hs : adV σ (.tmp p) = .cref s off) (hbx' : (∃ cs,EM (σ s) = some cs) ∨ EB (σ p) = some s) (ho : o.dst = some d) (hd : d < nt) (hx : d ∉ bx) (hk : K (upd σ d (.cref s off))) : OpS P nt bx base St0 w0 o σ K:=by
 rintro a w Q ⟨St,B,h,hb,hst,hz⟩
 obtain ⟨cs,hbx⟩ : ∃ cs,EM (σ s) = some cs:=hbx'.elim id (h.crefs p s)
 obtain ⟨g,T,bs',arr,q1,q2,q3,q4,q5,q6⟩:=JI h hs hbx
 have hr : (execOp a.eval o).run P w = .ok (.value (a.eval (.tmp p))) w:=by rcases hop with e | e <;> simp [execOp,e]
 refine Ie hr ⟨_,hk,St,upd B d [],?_,hb,hst,hz⟩
 rw [ho]
 exact h.put hd hx (c:=.cref s off) ⟨rfl,g,q2,q1⟩ List.nodup_nil (by simp) rfl (fun b e => by simp only [EB,Option.some.injEq] at e; subst e; exact ⟨cs,hbx⟩)
end
def known : V -> Bool
 | .undef => false
 | .gh _ _ => false
 | .same _ => false
 | .tok _ => false
 | _ => true
def isB (b : Bool) : V -> Bool
 | .bool c => c == b
 | _ => false
def gD (ops : Array Oper) (j : Nat) : Option Nat:=(ops[j]?).bind (·.dst)
structure LO where
 dst : Option Nat
 op : Op
 ty : TypeId
 g : Option (Option Nat × Bool)
def Bd (ops : Array Oper) (o : Oper) : LO:=⟨o.dst,o.op,o.type,o.guard.map fun p => (gD ops p.1,p.2)⟩
def H3 (tb : Tb) (o : LO) (σ : PS) (K : PS -> Prop) : Prop :=
 match o.dst with
 | none => False
 | some d => match o.g with
  | none => pc tb σ o.op ∧ K (upd σ d (pv tb σ o.op))
  | some (none,_) => False
  | some (some q,b) => known (σ q) = true ∧ (isB b (σ q) = true -> pc tb σ o.op ∧ K (upd σ d (pv tb σ o.op))) ∧ (isB b (σ q) = false -> K (upd σ d (.tup [])))
structure Tag (p : Prop) where
 n : Nat
def Sl (p : Prop) (_ : Tag p) : Prop:=p
def Lg (P : Program) (o : LO) (f : FuncId) (args : List Operand) (σ : PS) (K : PS -> Prop) : Prop :=
 match o.g with
 | none => args.all (fun x => (opV σ x).isArg) = true ∧ ∃ r,XA P σ f args r ∧ Sl (K (TY σ o.dst r)) ⟨0⟩
 | some (q,b) => match q,o.dst with
  | some q,some d => known (σ q) = true ∧ (isB b (σ q) = true -> args.all (fun x => (opV σ x).isArg) = true ∧ ∃ r,XA P σ f args r ∧ Sl (K (upd σ d r)) ⟨0⟩) ∧ (isB b (σ q) = false -> K (upd σ d (.tup [])))
  | _,_ => False
def Ox (o : LO) (d : Nat) (σ : PS) (K : PS -> Prop) (X : Prop) : Prop :=
 match o.g with
 | none => X
 | some (none,_) => False
 | some (some q,b) => known (σ q) = true ∧ (isB b (σ q) = true -> X) ∧ (isB b (σ q) = false -> K (upd σ d (.tup [])))
def B9 (c : V) : Bool:=match EM c with
 | none => true
 | some _ => false
def OB (P : Program) (o : LO) (f : FuncId) (x : Operand) (xs : List Operand) (σ : PS) (K : PS -> Prop) : Prop :=
 ∃ s cs cs' r,adV σ x = .cref s 0 ∧ σ s = .box cs ∧ cs.all Lc = true ∧ xs.all (fun x => (opV σ x).isArg) = true ∧ az P f cs (xs.map fun x => er (opV σ x)) cs' r ∧ K (TY (upd σ s (.box cs')) o.dst r)
def Pu (P : Program) (o : LO) (f : FuncId) (args : List Operand) (σ : PS) (K : PS -> Prop) : Prop :=
 match args with
 | [] => False
 | x :: xs => match o.dst with
  | none => o.g = none ∧ OB P o f x xs σ K
  | some d => Ox o d σ K (OB P o f x xs σ K)
def Pv (P : Program) (d : Option Nat) (f : FuncId) (args : List Operand) (σ : PS) (K : PS -> Prop) : Prop :=
 ∃ s xs cs cs',∃ D : List Nat,args = .tmp s :: xs ∧ σ s = .box cs ∧ cs.all Lc = false ∧ JN cs = true ∧ xs.all (fun x => (opV σ x).isArg && eO D x) = true ∧ jT P f cs (xs.map fun x => er (opV σ x)) cs' ∧ D.contains s = false ∧ (∀ q,q ≠ s -> D.contains q = true ∨ OU (σ q) = true) ∧ K (TY (upd (kill D σ) s (.box cs')) d (.tup []))
def O8 (P : Program) (o : LO) (f : FuncId) (args : List Operand) (σ : PS) (K : PS -> Prop) : Prop :=
 match o.dst with
 | none => o.g = none ∧ Pv P none f args σ K
 | some d => Ox o d σ K (Pv P (some d) f args σ K)
def fQ (P : Program) (o : LO) (f : FuncId) (args : List Operand) (d : Nat) (σ : PS) (K : PS -> Prop) : Prop :=
 ∃ cs,o.g = none ∧ B9 (σ d) = true ∧ args.all (fun x => (opV σ x).isArg) = true ∧ NewAt P f (args.map fun x => erK (opV σ x)) cs ∧ K (upd σ d (.box cs))
def JM (P : Program) (cns : List Nat) (o : LO) (f : FuncId) (args : List Operand) (σ : PS) (K : PS -> Prop) : Prop :=
 if o.dst.toList.any cns.contains = true then ∃ d,o.dst = some d ∧ fQ P o f args d σ K else Lg P o f args σ K ∨ Pu P o f args σ K ∨ O8 P o f args σ K
def Nc (tb : Tb) (o : LO) (x : Operand) (d : Nat) (σ : PS) (K : PS -> Prop) : Prop :=
 match x with
 | .const (.slice none 0 0) => match tb o.ty with
  | some (.sl e _ _ _) => K (upd σ d (.own e 0 []))
  | _ => False
 | .const (.pointer none) => K (upd σ d .undef)
 | .tmp p => match σ p with
  | .uni e n cs => K (upd (upd (kill [p] σ) p (.dat n cs)) d (.own e n cs))
  | .box _ => K (upd σ d (.cref p 0))
  | .cref b o => K (upd σ d (.cref b o))
  | c => c.isVal = true ∧ K (upd (Bw σ (.tmp p)) d c)
 | x => (opV σ x).isVal = true ∧ K (upd (Bw σ x) d (opV σ x))
def T6 (x : Operand) (d : Nat) (σ : PS) (K : PS -> Prop) : Prop :=
 match x with
 | .tmp p => match σ p with
  | .uni e n cs => B9 (kill [p] σ d) = true ∧ K (upd (kill [p] σ) d (.uni e n cs))
  | _ => False
 | _ => False
def cX (u : Value) (dd : TyD) (d : Nat) (σ : PS) (K : PS -> Prop) : Prop :=
 ∃ q g off e n m cs,u = .pointer (some ⟨g,off,none⟩) ∧ (q = gS ∨ q = gU) ∧ σ q = .gh [.slice (some ⟨g,0,none⟩) n m] [.own e n cs] ∧ off + dd.size <= cs.length ∧ 0 < dd.size ∧ K (upd σ d (getCells dd cs off))
def RV (tb : Tb) (t : TypeId) (x : Operand) (d : Nat) (σ : PS) (K : PS -> Prop) : Prop :=
 match tb t,adV σ x with
 | some dd,.cref s off => match EM (σ s) with
  | some cs => off + dd.size <= cs.length ∧ K (upd (upd σ s (M6 (σ s) (IQ dd.size cs off))) d (JW dd cs off))
  | none => False
 | some dd,.adr cs off => off + dd.size <= cs.length ∧ K (upd σ d (getCells dd cs off))
 | some dd,.tok u => cX u dd d σ K
 | _,_ => False
def XN (s i d : Nat) (σ : PS) (K : PS -> Prop) : Prop :=
 match σ s with
 | .tup cs => match cs[i]? with
  | some c => cs.all V.isArg = true ∧ K (upd (upd σ s (.tup (cs.set i (dg2 c)))) d c)
  | none => False
 | _ => False
def lp (u : Value) (dd : TyD) (y : Operand) (σ : PS) (K : PS -> Prop) : Prop :=
 ∃ g off e n m cs,∃ D : List Nat,∃ vc : List V,u = .pointer (some ⟨g,off,none⟩) ∧ σ gS = .gh [.slice (some ⟨g,0,none⟩) n m] [.own e n cs] ∧ Gs cs = true ∧ ka σ y vc ∧ Gs vc = true ∧ vc.length = dd.size ∧ off + dd.size <= cs.length ∧ ((yT y).contains gS || D.contains gS) = false ∧
  (∀ q,q ≠ gS -> D.contains q = true ∨ OU (Bw σ y q) = true) ∧ K (upd (kill D (Bw σ y)) gS (.gh [.slice (some ⟨g,0,none⟩) n m] [.own e n (Oy cs off vc)]))
def Yw (tb : Tb) (t : TypeId) (x y : Operand) (σ : PS) (K : PS -> Prop) : Prop :=
 match tb t,adV σ x with
 | some dd,.cref s off => match EM (σ s) with
  | some cs => (opV σ y).isArg = true ∧ (GG (opV σ y)).length = dd.size ∧ off + dd.size <= cs.length ∧ K (upd (Bw σ y) s (M6 (σ s) (Oy cs off (GG (opV σ y)))))
  | none => False
 | some dd,.tok u => lp u dd y σ K
 | _,_ => False
def Nv (tb : Tb) (t : TypeId) (d : Nat) (σ : PS) (K : PS -> Prop) : Prop :=
 match tb t with
 | some dd => B9 (σ d) = true ∧ K (upd σ d (.box (Sj dd)))
 | none => False
def boxS (x : Operand) (d : Nat) (σ : PS) (K : PS -> Prop) : Prop:=(opV σ x).isArg = true ∧ B9 (Bw σ x d) = true ∧ K (upd (Bw σ x) d (.box (GG (opV σ x))))
def MM (tb : Tb) (t : TypeId) (parts : List (Nat × Operand)) (d : Nat) (σ : PS) (K : PS -> Prop) : Prop :=
 match tb t with
 | some (.st _ z fs) => match KQ (fun i => fs[i]?) parts σ z with
  | some (σ',cs) => K (upd σ' d (.agg cs))
  | none => False
 | _ => False
def XH (tb : Tb) (t : TypeId) (n : Nat) (parts : List (Nat × Operand)) (d : Nat) (σ : PS) (K : PS -> Prop) : Prop :=
 match tb t with
 | some (.sl e es _ ez) => match KQ (fun i => some (i * es,es)) parts σ (Oz ez es n) with
  | some (σ',cs) => n * es <= 16777216 ∧ cs.length = n * es ∧ K (upd σ' d (.own e n cs))
  | none => False
 | _ => False
def TO (tb : Tb) (t : TypeId) (x y : Operand) (d : Nat) (σ : PS) (K : PS -> Prop) : Prop :=
 match tb t,opV σ x,opV σ y with
 | some (.sl e es _ ez),.int _ n,.int _ m => 0 <= n ∧ n = m ∧ n.toNat <= lim ∧ K (upd σ d (.own e n.toNat (Oz ez es n.toNat)))
 | _,_,_ => False
def TP (tb : Tb) (t : TypeId) (x y : Operand) (d : Nat) (σ : PS) (K : PS -> Prop) : Prop :=
 match tb t,opV σ x,opV σ y with
 | some (.sl e es _ ez),.int _ n,.int _ m => 0 <= n ∧ n = m ∧ n.toNat <= lim ∧ B9 (σ d) = true ∧ K (upd σ d (.uni e n.toNat (Oz ez es n.toNat)))
 | _,_,_ => False
def Wi (tb : Tb) (t t' : TypeId) (x y : Operand) (d : Nat) (σ : PS) (K : PS -> Prop) : Prop :=
 match tb t,opV σ x,Kf (opV (Bw σ x) y) with
 | some (.sl e es _ _),.own e' n cs,some (m,ds) => t' = t ∧ e' = e ∧ ds.length = m * es ∧ n + m <= lim ∧ (K (upd (Bw (Bw σ x) y) d (.own e (n + m) (cs ++ T2 (opV (Bw σ x) y)))) ∨ K (upd (upd (Bw (Bw σ x) y) d (.own e (n + m) (cs ++ T2 (opV (Bw σ x) y)))) d (.own e (n + m) ((cs ++ T2 (opV (Bw σ x) y)).map dg1))) ∧ (cs ++ T2 (opV (Bw σ x) y)).all V.Fq = true)
 | _,_,_ => False
def MO (P : Program) (tb : Tb) (cns : List Nat) (o : LO) (c : Call) (σ : PS) (K : PS -> Prop) : Prop :=
 match c.callee,o.dst,c.args.toList,c.argTypes.toList with
 | .value x,_,args,_ => match opV σ x with
  | .fn f => JM P cns o f args σ K
  | _ => False
 | .builtin .append,some d,[x,y],[t,t'] => Ox o d σ K (Wi tb t t' x y d σ K)
 | _,_,_,_ => H3 tb o σ K
def eM (P : Program) (t : TypeId) (f : Nat) : Option Nat:=match P.underlying t with
 | some (.struct gs) => match gs[f]? with
  | some fd => match P.underlying fd.type with
   | some (.struct _) => none
   | some (.array _ _) => none
   | some _ => some fd.offset
   | none => none
  | none => none
 | _ => none
def YY (P : Program) (t : TypeId) (x : Operand) (f d : Nat) (σ : PS) (K : PS -> Prop) : Prop :=
 match eM P t f,opV σ x with
 | some off,.agg cs => match cs[off]? with
  | some c => K (upd σ d (dg1 c))
  | none => False
 | _,_ => False
def evO (P : Program) (tb : Tb) (cns : List Nat) (o : LO) (σ : PS) (K : PS -> Prop) : Prop :=
 match o.op,o.dst with
 | .assign x,some d => if cns.contains d = true then o.g = none ∧ T6 x d σ K else o.g = none ∧ Nc tb o x d σ K
 | .move x,some d => if cns.contains d = true then o.g = none ∧ Nc tb o x d σ K else H3 tb o σ K
 | .load t x,some d => if cns.contains d = true then o.g = none ∧ RV tb t x d σ K else H3 tb o σ K
 | .extract (.tmp s) i,some d => o.g = none ∧ XN s i d σ K
 | .store t x y,none => o.g = none ∧ Yw tb t x y σ K
 | .alloc t,some d => o.g = none ∧ Nv tb t d σ K
 | .box _ x,some d => o.g = none ∧ boxS x d σ K
 | .build t ps,some d => Ox o d σ K (MM tb t ps.toList d σ K)
 | .buildSlice t n ps,some d => Ox o d σ K (XH tb t n ps.toList d σ K)
 | .makeSlice t x y,some d => if cns.contains d = true then o.g = none ∧ TP tb t x y d σ K else o.g = none ∧ TO tb t x y d σ K
 | .call c,_ => MO P tb cns o c σ K
 | .field t x f,some d => Ox o d σ K (YY P t x f d σ K)
 | _,_ => H3 tb o σ K
def UJ (c : Call) : Bool:=match c.callee with
 | .value _ => true
 | _ => false
def TQ (nt : Nat) (bx : List Nat) (o : Oper) : Bool :=
 match o.dst with
 | none => true
 | some d => decide (d < nt) && (match o.op with
  | .alloc _ | .box _ _ => bx.contains d
  | .assign _ | .makeSlice _ _ _ => true
  | .call c => UJ c || !bx.contains d
  | _ => !bx.contains d)
def dt (bx : List Nat) (o : Oper) : Bool :=
 match o.dst with
 | none => true
 | some d => !(bx.contains OF && d == 0)
def QK (nt : Nat) (bx : List Nat) (o : Oper) : Bool:=TQ nt bx o && dt bx o
theorem SZ {nt : Nat} {bx : List Nat} {o : Oper} (h : QK nt bx o = true) : TQ nt bx o = true:=by unfold QK at h; rw [Bool.and_eq_true] at h; exact h.1
theorem QL {nt : Nat} {bx : List Nat} {o : Oper} {d : Nat} (h : QK nt bx o = true) (hd : o.dst = some d) : OF ∈ bx -> d ≠ 0:=by
 unfold QK dt at h
 rw [Bool.and_eq_true,hd] at h
 have h:=h.2
 intro hk e
 subst e
 simp [hk] at h
def okA (bx cns : List Nat) (o : LO) : Bool :=
 match o.op,o.dst with
 | .assign _,some d => cns.contains d == bx.contains d
 | .makeSlice _ _ _,some d => cns.contains d == bx.contains d
 | .call c,some d => !UJ c || cns.contains d == bx.contains d
 | _,_ => true
def Po (P : Program) (nt : Nat) (bx : List Nat) (ops : Array Oper) (o : Oper) (σ : PS) (K : PS -> Prop) : Prop :=
 ∀ base St0 w0 a w Q,Rel P nt bx base St0 w0 σ a w ->
  if Region.wanted o (yielded ops a.tmps) then o.wp P a w (fun a' w' => ∃ σ',K σ' ∧ Rel P nt bx base St0 w0 σ' a' w') Q else ∃ σ',K σ' ∧ Rel P nt bx base St0 w0 σ' (a.put o.dst undef) w
section
variable {P : Program} {nt : Nat} {base : Bs} {bx : List Nat} {ops : Array Oper} {σ : PS} {K : PS -> Prop} {o : Oper} {tb : Tb}
theorem Cp (hg : o.guard = none) (h : ∀ base St0 w0,OpS P nt bx base St0 w0 o σ K) : Po P nt bx ops o σ K:=by
 intro base St0 w0 a w Q hr
 have : Region.wanted o (yielded ops a.tmps) = true:=by simp [Region.wanted,hg]
 rw [if_pos this]
 exact h base St0 w0 a w Q hr
theorem Q6 {w : World} {St : Nat -> Nat -> Prop} {t : Nat -> Value} {c : V} {b : Bool} {bs : List Nat} (hk : known c = true) (hb : isB b c = false) : ¬ A3 P w St t c (.bool b) bs:=by
 intro h
 cases c with
 | undef => cases hk
 | gh us cs => cases hk
 | same s => cases hk
 | bool c => have:=IU h; simp only [Value.bool.injEq] at this; subst this; simp [isB] at hb
 | int k n => have:=EI h; cases this
 | str s => have:=(Jd h).1; cases this
 | own e n cs => obtain ⟨_,A,c,e,_⟩:=GU (c:=.own e n cs) rfl h; cases e
 | dat n cs => obtain ⟨_,A,c,e,_⟩:=GU (c:=.dat n cs) rfl h; cases e
 | agg cs => obtain ⟨us,e,_⟩:=h; cases e
 | tup cs => obtain ⟨us,e,_⟩:=h; cases e
 | arg n cs => obtain ⟨_,A,c,e,_⟩:=GU (c:=.arg n cs) rfl h; cases e
 | pin u n cs => obtain ⟨_,A,c,e,_⟩:=GU (c:=.pin u n cs) rfl h; cases e
 | fn f => have e:=h.2; cases e
 | tok u => cases hk
 | box cs => obtain ⟨g,T,b',arr,e,_⟩:=h; cases e
 | uni e n cs => obtain ⟨g,b',arr,e,_⟩:=h; cases e
 | cref s o => obtain ⟨_,g,_,e⟩:=h; cases e
 | adr cs o => obtain ⟨_,g,_,e,_⟩:=h; cases e
theorem guard_of {St0 : Nat -> Nat -> Prop} {w0 w : World} {a : Act} (hr : Rel P nt bx base St0 w0 σ a w) {j q : Nat} {b : Bool} (hg : o.guard = some (j,b)) (hq : gD ops j = some q) (hk : known (σ q) = true) : Region.wanted o (yielded ops a.tmps) = isB b (σ q):=by
 obtain ⟨St,B,h,_⟩:=hr
 have hs:=h.slot q
 have hw : Region.wanted o (yielded ops a.tmps) = ((match a.tmps[q]? with | some (.bool c) => some c | _ => none : Option Bool) == some b):=by
  unfold gD at hq
  simp only [Region.wanted,hg,yielded,hq,Option.bind_some]
  rfl
 have htm : ∀ v,a.tmps[q]? = some v -> tm a q = v:=by
  intro v hv
  unfold tm
  rw [Array.getD_eq_getD_getElem?,hv]; rfl
 rw [hw]
 cases hc : σ q with
 | bool c =>
  rw [hc] at hs
  have hv:=IU hs
  cases hx : a.tmps[q]? with
  | none =>
   unfold tm at hv
   rw [Array.getD_eq_getD_getElem?,hx] at hv
   simp [undef] at hv
  | some u =>
   rw [htm u hx] at hv
   subst hv
   simp [isB]
 | undef => rw [hc] at hk; cases hk
 | gh us cs => rw [hc] at hk; cases hk
 | same s => rw [hc] at hk; cases hk
 | tok u => rw [hc] at hk; cases hk
 | _ =>
  cases hx : a.tmps[q]? with
  | none => rfl
  | some u =>
   have hu:=htm u hx
   rw [hc,hu] at hs
   cases u with
   | bool c => exact absurd hs (Q6 (by rfl) (by rfl))
   | _ => rfl
theorem P6 {St0 : Nat -> Nat -> Prop} {w0 w : World} {a : Act} (hr : Rel P nt bx base St0 w0 σ a w) {d : Nat} (hd : d < nt) (hx : d ∉ bx) : Rel P nt bx base St0 w0 (upd σ d (.tup [])) (a.put (some d) undef) w:=by
 obtain ⟨St,B,h,hb,hst,hz⟩:=hr
 have hv : Ow P w St (.tup []) undef []:=⟨[],rfl,rfl,rfl⟩
 exact ⟨St,upd B d [],h.put hd hx hv.slot List.nodup_nil (by simp) rfl (by intro b e; cases e),hb,hst,hz⟩
def c8 : Op -> Bool
 | .alloc _ | .box _ _ | .assign _ | .makeSlice _ _ _ => true
 | .call c => UJ c
 | _ => false
theorem MP {d : Nat} (h : QK nt bx o = true) (hd : o.dst = some d) (hna : c8 o.op = false) : d < nt ∧ d ∉ bx:=by
 replace h:=SZ h
 unfold TQ at h
 rw [hd] at h
 simp only [Bool.and_eq_true,decide_eq_true_eq] at h
 refine ⟨h.1,?_⟩
 have h2:=h.2
 cases ho : o.op <;> rw [ho] at h2 hna <;> first | (cases hna; done) | (simpa using h2; done) | (simp only [c8] at hna; simp only [hna,Bool.false_or] at h2; simpa using h2; done)
theorem Yf {d : Nat} (h : QK nt bx o = true) (hd : o.dst = some d) (hna : (match o.op with | .alloc _ | .box _ _ => true | _ => false) = true) : d < nt ∧ d ∈ bx:=by
 replace h:=SZ h
 unfold TQ at h
 rw [hd] at h
 simp only [Bool.and_eq_true,decide_eq_true_eq] at h
 refine ⟨h.1,?_⟩
 have h2:=h.2
 cases ho : o.op <;> rw [ho] at h2 hna <;> first | (cases hna; done) | (simpa using h2; done)
theorem dq {cns : List Nat} {d : Nat} {c : Call} (hok : QK nt bx o = true) (hA : okA bx cns (Bd ops o) = true) (hop : o.op = .call c) (hg : UJ c = true) (hd : o.dst = some d) : d < nt ∧ (cns.contains d = true -> d ∈ bx) ∧ (cns.contains d = false -> d ∉ bx):=by
 have h1 : d < nt:=by
  replace hok:=SZ hok
  unfold TQ at hok
  rw [hd] at hok
  simp only [Bool.and_eq_true,decide_eq_true_eq] at hok
  exact hok.1
 have h2 : cns.contains d = bx.contains d:=by
  simpa [okA,Bd,hop,hd,hg] using hA
 refine ⟨h1,fun h => ?_,fun h hm => ?_⟩
 ·rw [h2] at h; simpa using h
 ·rw [h2] at h; simp at h; exact h hm
theorem JX (htb : KD P tb) (hok : QK nt bx o = true) (hna : c8 o.op = false) (h : H3 tb (Bd ops o) σ K) : Po P nt bx ops o σ K:=by
 simp only [H3,Bd] at h
 cases hd : o.dst with
 | none => rw [hd] at h; exact h.elim
 | some d =>
  rw [hd] at h
  obtain ⟨hd1,hd2⟩:=MP hok hd hna
  simp only at h
  cases hg : o.guard with
  | none => rw [hg] at h; exact Cp hg (fun base St0 w0 => P0 htb hd hd1 hd2 h.1 h.2)
  | some g =>
   obtain ⟨j,b⟩:=g
   rw [hg] at h
   simp only [Option.map_some] at h
   cases hq : gD ops j with
   | none => rw [hq] at h; exact h.elim
   | some q =>
    rw [hq] at h
    obtain ⟨h1,h2,h3⟩:=h
    intro base St0 w0 a w Q hr
    rw [guard_of hr hg hq h1]
    cases hb : isB b (σ q) with
    | true =>
     simp only [if_true]
     exact P0 htb hd hd1 hd2 (h2 hb).1 (h2 hb).2 a w Q hr
    | false =>
     simp only [Bool.false_eq_true,if_false]
     rw [hd]
     exact ⟨_,h3 hb,P6 hr hd1 hd2⟩
theorem Jr {d : Nat} {X : Prop} (hd : o.dst = some d) (hd1 : d < nt) (hd2 : d ∉ bx) (hX : X -> ∀ base St0 w0,OpS P nt bx base St0 w0 o σ K) (h : Ox (Bd ops o) d σ K X) : Po P nt bx ops o σ K:=by
 simp only [Ox,Bd] at h
 cases hg : o.guard with
 | none => rw [hg] at h; exact Cp hg (hX h)
 | some g =>
  obtain ⟨j,b⟩:=g
  rw [hg] at h
  simp only [Option.map_some] at h
  cases hq : gD ops j with
  | none => rw [hq] at h; exact h.elim
  | some q =>
   rw [hq] at h
   obtain ⟨h1,h2,h3⟩:=h
   intro base St0 w0 a w Q hr
   rw [guard_of hr hg hq h1]
   cases hb : isB b (σ q) with
   | true =>
    simp only [if_true]
    exact hX (h2 hb) base St0 w0 a w Q hr
   | false =>
    simp only [Bool.false_eq_true,if_false]
    rw [hd]
    exact ⟨_,h3 hb,P6 hr hd1 hd2⟩
theorem RC {f : FuncId} {cal : Operand} {args : List Operand} {c : Call} (hcv : opV σ cal = .fn f) (hop : o.op = .call c) (hcal : c.callee = .value cal) (hargs : c.args.toList = args) (hdd : ∀ d,o.dst = some d -> d < nt ∧ d ∉ bx) (h : Lg P (Bd ops o) f args σ K) : Po P nt bx ops o σ K:=by
 have hop' : o.op = .call { callee:=.value cal,args:=c.args,argTypes:=c.argTypes }:=by rw [hop,<- hcal]
 simp only [Lg,Bd] at h
 cases hg : o.guard with
 | none =>
  rw [hg] at h
  obtain ⟨h1,r,h2,h3⟩:=h
  exact Cp hg (fun base St0 w0 => S4 hcv hop' (by rw [hargs]; exact h1) (by rw [hargs]; exact h2) hdd h3)
 | some g =>
  obtain ⟨j,b⟩:=g
  rw [hg] at h
  simp only [Option.map_some] at h
  split at h
  ·rename_i q d hq hd
   obtain ⟨h1,h2,h3⟩:=h
   obtain ⟨hd1,hd2⟩:=hdd d hd
   intro base St0 w0 a w Q hr
   rw [guard_of hr hg hq h1]
   cases hb : isB b (σ q) with
   | true =>
    simp only [if_true]
    obtain ⟨h4,r,h5,h6⟩:=h2 hb
    refine S4 hcv hop' (by rw [hargs]; exact h4) (by rw [hargs]; exact h5) hdd ?_ a w Q hr
    rw [hd]; exact h6
   | false =>
    simp only [Bool.false_eq_true,if_false]
    rw [hd]
    exact ⟨_,h3 hb,P6 hr hd1 hd2⟩
  ·exact h.elim
theorem RB {f : FuncId} {cal : Operand} {args : List Operand} {c : Call} (hcv : opV σ cal = .fn f) (hop : o.op = .call c) (hcal : c.callee = .value cal) (hargs : c.args.toList = args) (hdd : ∀ d,o.dst = some d -> d < nt ∧ d ∉ bx) (h : Pu P (Bd ops o) f args σ K) : Po P nt bx ops o σ K:=by
 have hop' : o.op = .call { callee:=.value cal,args:=c.args,argTypes:=c.argTypes }:=by rw [hop,<- hcal]
 unfold Pu at h
 split at h
 ·exact h.elim
 ·rename_i x xs
  have key : OB P (Bd ops o) f x xs σ K -> ∀ base St0 w0,OpS P nt bx base St0 w0 o σ K:=fun ⟨s,cs,cs',r,q1,q2,q3,q4,q5,q6⟩ base St0 w0 => Vq hcv hop' hargs q1 q2 q3 q4 q5 hdd q6
  split at h
  ·exact Cp (by simpa [Bd] using h.1) (key h.2)
  ·rename_i d hd
   obtain ⟨hd1,hd2⟩:=hdd d hd
   exact Jr hd hd1 hd2 key h
theorem Qy {f : FuncId} {cal : Operand} {args : List Operand} {c : Call} (hcv : opV σ cal = .fn f) (hop : o.op = .call c) (hcal : c.callee = .value cal) (hargs : c.args.toList = args) (hdd : ∀ d,o.dst = some d -> d < nt ∧ d ∉ bx) (h : O8 P (Bd ops o) f args σ K) : Po P nt bx ops o σ K:=by
 have hop' : o.op = .call { callee:=.value cal,args:=c.args,argTypes:=c.argTypes }:=by rw [hop,<- hcal]
 have key : Pv P o.dst f args σ K -> ∀ base St0 w0,OpS P nt bx base St0 w0 o σ K:=fun ⟨s,xs,cs,cs',D,q1,q2,q3,q4,q5,q6,q7,q8,q9⟩ base St0 w0 => Vp hcv hop' (by rw [hargs]; exact q1) q2 q4 q5 q6 q7 q8 hdd q9
 unfold O8 at h
 split at h
 ·rename_i hd
  exact Cp (by simpa [Bd] using h.1) (key (by rw [show o.dst = none from hd]; exact h.2))
 ·rename_i d hd
  obtain ⟨hd1,hd2⟩:=hdd d hd
  exact Jr hd hd1 hd2 (fun h => key (by rw [show o.dst = some d from hd]; exact h)) h
theorem Ks {c : V} (h : B9 c = true) : EM c = none:=by
 unfold B9 at h
 split at h
 ·rename_i e; exact e
 ·cases h
theorem dr {cns : List Nat} {d : Nat} (hok : QK nt bx o = true) (hA : okA bx cns (Bd ops o) = true) (hop : (∃ x,o.op = .assign x) ∨ ∃ t x y,o.op = .makeSlice t x y) (hd : o.dst = some d) : d < nt ∧ (cns.contains d = true -> d ∈ bx) ∧ (cns.contains d = false -> d ∉ bx):=by
 have h1 : d < nt:=by
  replace hok:=SZ hok
  unfold TQ at hok
  rw [hd] at hok
  simp only [Bool.and_eq_true,decide_eq_true_eq] at hok
  exact hok.1
 have h2 : cns.contains d = bx.contains d:=by
  rcases hop with ⟨x,hop⟩ | ⟨t,x,y,hop⟩ <;> simpa [okA,Bd,hop,hd] using hA
 refine ⟨h1,fun h => ?_,fun h hm => ?_⟩
 ·rw [h2] at h; simpa using h
 ·rw [h2] at h; simp at h; exact h hm
theorem O4 {x : Operand} {d : Nat} (hop : o.op = .assign x ∨ o.op = .move x) (hd : o.dst = some d) (hg : o.guard = none) (hd1 : d < nt) (hd2 : d ∉ bx) (h : Nc tb (Bd ops o) x d σ K) : Po P nt bx ops o σ K:=by
 unfold Nc at h
 split at h
 ·split at h
  ·exact Cp hg (fun base St0 w0 => ZF hop hd hd1 hd2 h)
  ·exact h.elim
 ·exact Cp hg (fun base St0 w0 => W2 hop hd hd1 hd2 h)
 ·rename_i p
  split at h
  ·rename_i e n cs hs
   exact Cp hg (fun base St0 w0 => Vv hop hs hd hd1 hd2 h)
  ·rename_i cs hs
   exact Cp hg (fun base St0 w0 => QO hop (by simp only [adV,hs]) (.inl ⟨cs,by rw [hs]; rfl⟩) hd hd1 hd2 h)
  ·rename_i b o' hs
   exact Cp hg (fun base St0 w0 => QO hop (by simp only [adV,hs]) (.inr (by rw [hs]; rfl)) hd hd1 hd2 h)
  ·exact Cp hg (fun base St0 w0 => P1 hop hd hd1 hd2 h.1 h.2)
 ·exact Cp hg (fun base St0 w0 => P1 hop hd hd1 hd2 h.1 h.2)
theorem Tz {x : Operand} {d : Nat} (hop : o.op = .assign x) (hd : o.dst = some d) (hg : o.guard = none) (hd1 : d < nt) (hd2 : d ∈ bx) (hd0 : OF ∈ bx -> d ≠ 0) (h : T6 x d σ K) : Po P nt bx ops o σ K:=by
 unfold T6 at h
 split at h
 ·rename_i p
  split at h
  ·rename_i e n cs hs
   exact Cp hg (fun base St0 w0 => W0 (.inl hop) hs hd hd1 hd2 hd0 (Ks h.1) h.2)
  ·exact h.elim
 ·exact h.elim
theorem Vr {St0 : Nat -> Nat -> Prop} {w0 : World} {t : TypeId} {x : Operand} {f d off : Nat} {cs : List V} {c : V} (hop : o.op = .field t x f) (hf : eM P t f = some off) (hx : opV σ x = .agg cs) (hc : cs[off]? = some c) (ho : o.dst = some d) (hd : d < nt) (hn : d ∉ bx) (hk : K (upd σ d (dg1 c))) : OpS P nt bx base St0 w0 o σ K:=by
 rintro a w Q ⟨St,B,h,hb,hst,hz⟩
 obtain ⟨b,hs⟩:=Lp h x
 rw [hx] at hs
 obtain ⟨us,e1,h1⟩:=hs
 obtain ⟨u,hu,hr⟩:=(AC.rdL cs h1).get off c hc
 have how : Ow P w St (dg1 c) u []:=Ow.jM hr.TW
 have hrun : (execOp a.eval o).run P w = .ok (.value u) w:=by
  unfold eM at hf
  split at hf
  ·rename_i gs hgs
   split at hf
   ·rename_i fd hfd
    have hu' : us.toArray[fd.offset]? = some u ∧ (isAgg fd.type).run P w = .ok false w:=by
     split at hf
     ·cases hf
     ·cases hf
     ·rename_i d' hn1 hn2 hdt
      injection hf with hf
      subst hf
      refine ⟨by simpa using hu,?_⟩
      simp only [Go.isAgg,Sem.run_bind,run_underlying hdt,Result.andThen_ok]
      cases d' <;> first | rfl | exact absurd rfl (hn1 _) | exact absurd rfl (hn2 _ _)
     ·cases hf
    simp only [execOp,hop,Instr.field,Sem.run_bind,run_underlying hgs,Result.andThen_ok,hfd,e1,asAgg,Sem.run_pure,part,hu'.2,Bool.false_eq_true,if_false,hu'.1]
   ·cases hf
  ·cases hf
 refine Ie hrun ⟨_,hk,St,upd B d [],?_,hb,hst,hz⟩
 rw [ho]
 exact h.put hd hn how.slot List.nodup_nil (by simp) how.B9.1 how.MF
theorem NL (htb : KD P tb) {cns : List Nat} (hok : QK nt bx o = true) (hA : okA bx cns (Bd ops o) = true) (h : evO P tb cns (Bd ops o) σ K) : Po P nt bx ops o σ K:=by
 have hgn : (Bd ops o).g = none -> o.guard = none:=by
  intro e
  simpa [Bd] using e
 have hlo : (Bd ops o).op = o.op:=rfl
 have hld : (Bd ops o).dst = o.dst:=rfl
 unfold evO at h
 rw [hlo,hld] at h
 split at h
 ·rename_i x d ho hd
  obtain ⟨q1,q2,q3⟩:=dr hok hA (.inl ⟨x,ho⟩) hd
  split at h
  ·rename_i hc; exact Tz ho hd (hgn h.1) q1 (q2 hc) (QL hok hd) h.2
  ·rename_i hc; exact O4 (.inl ho) hd (hgn h.1) q1 (q3 (by simpa using hc)) h.2
 ·rename_i x d ho hd
  split at h
  ·obtain ⟨hd1,hd2⟩:=MP hok hd (by rw [ho]; rfl)
   exact O4 (.inr ho) hd (hgn h.1) hd1 hd2 h.2
  ·exact JX htb hok (by rw [ho]; rfl) h
 ·rename_i t x d ho hd
  split at h
  ·obtain ⟨hg,h⟩:=h
   replace hg:=hgn hg
   obtain ⟨hd1,hd2⟩:=MP hok hd (by rw [ho]; rfl)
   unfold RV at h
   split at h
   ·rename_i dd s off ht hax
    split at h
    ·rename_i cs hs
     exact Cp hg (fun base St0 w0 => QP htb ho ht hax hs h.1 hd hd1 hd2 h.2)
    ·exact h.elim
   ·rename_i dd cs off ht hax
    refine Cp hg (fun base St0 w0 => P0 htb hd hd1 hd2 ?_ ?_)
    ·rw [ho]; simp only [pc,ht,hax,LQ,N4]; exact h.1
    ·rw [ho]; simp only [pv,ht,hax,LR,PX]; exact h.2
   ·rename_i dd u ht hax
    obtain ⟨q,g,off,e,n,m,cs,rfl,-,k1,k2,k3,k4⟩:=h
    exact Cp hg (fun base St0 w0 => Vs htb ho ht hax k1 k2 k3 hd hd1 hd2 k4)
   ·exact h.elim
  ·exact JX htb hok (by rw [ho]; rfl) h
 ·rename_i s i d ho hd
  obtain ⟨hg,h⟩:=h
  replace hg:=hgn hg
  obtain ⟨hd1,hd2⟩:=MP hok hd (by rw [ho]; rfl)
  unfold XN at h
  split at h
  ·rename_i cs hs
   split at h
   ·rename_i c hc
    exact Cp hg (fun base St0 w0 => R0 ho hd hd1 hd2 hs hc h.1 h.2)
   ·exact h.elim
  ·exact h.elim
 ·rename_i t x y ho hd
  obtain ⟨hg,h⟩:=h
  replace hg:=hgn hg
  unfold Yw at h
  split at h
  ·rename_i dd s off ht hax
   split at h
   ·rename_i cs hs
    obtain ⟨h1,h2,h3,h4⟩:=h
    exact Cp hg (fun base St0 w0 => Vu htb ho ht hax hs h1 h2 h3 hd h4)
   ·exact h.elim
  ·rename_i dd u ht hax
   obtain ⟨g,off,e,n,m,cs,D,vc,rfl,h1,h2,h3,h4,h5,h6,h7,h8,h9⟩:=h
   exact Cp hg (fun base St0 w0 => W3 htb ho ht hax h1 h2 h3 h4 h5 h6 hd D h7 h8 h9)
  ·exact h.elim
 ·rename_i t d ho hd
  obtain ⟨hg,h⟩:=h
  replace hg:=hgn hg
  obtain ⟨hd1,hd2⟩:=Yf hok hd (by rw [ho])
  unfold Nv at h
  split at h
  ·rename_i dd ht
   exact Cp hg (fun base St0 w0 => Vm htb ho ht hd hd1 hd2 (QL hok hd) (Ks h.1) h.2)
  ·exact h.elim
 ·rename_i t x d ho hd
  obtain ⟨hg,h⟩:=h
  replace hg:=hgn hg
  obtain ⟨hd1,hd2⟩:=Yf hok hd (by rw [ho])
  obtain ⟨h1,h2,h3⟩:=h
  exact Cp hg (fun base St0 w0 => ZE ho hd hd1 hd2 (QL hok hd) h1 (Ks h2) h3)
 ·rename_i t ps d ho hd
  obtain ⟨hd1,hd2⟩:=MP hok hd (by rw [ho]; rfl)
  refine Jr hd hd1 hd2 (fun h base St0 w0 => ?_) h
  unfold MM at h
  split at h
  ·rename_i n z fs ht
   split at h
   ·rename_i σ' cs hf
    exact Vn htb ho ht hf hd hd1 hd2 h
   ·exact h.elim
  ·exact h.elim
 ·rename_i t n ps d ho hd
  obtain ⟨hd1,hd2⟩:=MP hok hd (by rw [ho]; rfl)
  refine Jr hd hd1 hd2 (fun h base St0 w0 => ?_) h
  unfold XH at h
  split at h
  ·rename_i e es eb ez ht
   split at h
   ·rename_i σ' cs hf
    obtain ⟨h1,h2,h3⟩:=h
    exact OS htb ho ht h1 hf h2 hd hd1 hd2 h3
   ·exact h.elim
  ·exact h.elim
 ·rename_i t x y d ho hd
  obtain ⟨hd1,hd3,hd4⟩:=dr hok hA (.inr ⟨t,x,y,ho⟩) hd
  split at h
  ·rename_i hc
   have hd2:=hd3 hc
   obtain ⟨hg,h⟩:=h
   replace hg:=hgn hg
   unfold TP at h
   split at h
   ·rename_i e es eb ez k n k' m ht hx hy
    obtain ⟨h0,rfl,h2,h4,h3⟩:=h
    obtain ⟨n,rfl⟩:=Int.eq_ofNat_of_zero_le h0
    exact Cp hg (fun base St0 w0 => Vt htb ho ht hx hy (by simpa using h2) hd hd1 hd2 (QL hok hd) (Ks h4) (by simpa using h3))
   ·exact h.elim
  ·rename_i hc
   have hd2:=hd4 (by simpa using hc)
   obtain ⟨hg,h⟩:=h
   replace hg:=hgn hg
   unfold TO at h
   split at h
   ·rename_i e es eb ez k n k' m ht hx hy
    obtain ⟨h0,rfl,h2,h3⟩:=h
    obtain ⟨n,rfl⟩:=Int.eq_ofNat_of_zero_le h0
    exact Cp hg (fun base St0 w0 => W1 htb ho ht hx hy (by simpa using h2) hd hd1 hd2 (by simpa using h3))
   ·exact h.elim
 ·rename_i d c ho
  unfold MO at h
  split at h
  ·rename_i x hcal
   have hgo : UJ c = true:=by unfold UJ; rw [hcal]
   split at h
   ·rename_i f hcv
    unfold JM at h
    split at h
    ·rename_i hc
     obtain ⟨d',hd',cs,h0,h1,h2,h3,h4⟩:=h
     have hd2 : o.dst = some d':=hd'
     obtain ⟨q1,q2,q3⟩:=dq hok hA ho hgo hd2
     have hcc : cns.contains d' = true:=by
      have : (Bd ops o).dst = some d':=hd'
      rw [this] at hc
      simpa using hc
     exact Cp (hgn h0) (fun base St0 w0 => Vo hcv (by rw [ho,<- hcal]) h2 h3 hd2 q1 (q2 hcc) (QL hok hd2) (Ks h1) h4)
    ·rename_i hc
     have hdd : ∀ d,o.dst = some d -> d < nt ∧ d ∉ bx:=fun d hd => by
      obtain ⟨q1,q2,q3⟩:=dq hok hA ho hgo hd
      refine ⟨q1,q3 ?_⟩
      have : (Bd ops o).dst = some d:=hd
      rw [this] at hc
      simpa using hc
     rcases h with h | h | h
     ·exact RC hcv ho hcal rfl hdd h
     ·exact RB hcv ho hcal rfl hdd h
     ·exact Qy hcv ho hcal rfl hdd h
   ·exact h.elim
  ·rename_i d' x y t t' hcal hd hargs hts
   obtain ⟨hd1,hd2⟩:=MP hok hd (by rw [ho]; simp only [c8,UJ,hcal])
   refine Jr hd hd1 hd2 (fun h base St0 w0 => ?_) h
   unfold Wi at h
   split at h
   ·rename_i e es eb ez e' n cs m ds ht hx hy
    obtain ⟨rfl,rfl,h1,h2,h3⟩:=h
    have hop : o.op = .call { callee:=.builtin .append,args := #[x,y],argTypes := #[t',t'] }:=by
     rw [ho]
     have e1 : c.args = #[x,y]:=by rw [<- Array.toArray_toList (xs:=c.args),hargs]
     have e2 : c.argTypes = #[t',t']:=by rw [<- Array.toArray_toList (xs:=c.argTypes),hts]
     rw [<- hcal,<- e1,<- e2]
    rcases h3 with h3 | ⟨h3,h4⟩
    ·exact Pf htb hop ht hx hy h1 h2 hd hd1 hd2 h3
    ·exact dw (Pf (K:=fun σ' => σ' = _) htb hop ht hx hy h1 h2 hd hd1 hd2 rfl) (by rw [upd_same]; exact ki (aN _ h4)) (by simp) h3
   ·exact h.elim
  ·rename_i hne _
   exact JX htb hok (by rw [ho]; simp only [c8,UJ]) h
 ·rename_i t x f d ho hd
  obtain ⟨hd1,hd2⟩:=MP hok hd (by rw [ho]; rfl)
  refine Jr hd hd1 hd2 (fun h base St0 w0 => ?_) h
  unfold YY at h
  split at h
  ·rename_i off cs hf hx
   split at h
   ·rename_i c hc
    exact Vr ho hf hx hc hd hd1 hd2 h
   ·exact h.elim
  ·exact h.elim
 ·cases hd : o.dst with
  | none => simp only [H3,Bd] at h; rw [hd] at h; exact h.elim
  | some d => exact JX htb hok (by clear hA h; cases ho : o.op <;> first | rfl | (exfalso; simp_all; done) | (exfalso; rename_i hx _ _ _; exact hx _ _ _ _ ho hd) | (exfalso; rename_i hx _ _ _ _; exact hx _ _ _ _ ho hd) | (exfalso; simp_all; rename_i hx _ _; exact hx _ _ _ _ rfl rfl rfl rfl) | (exfalso; simp_all; rename_i hx _; exact hx _ _ _ _ rfl rfl rfl rfl)) h
end
end Go.Proofs.YtkclaipnejgloaaGreatDoor
namespace Go.Proofs.YtkclaipnejgloaaGreatDoor
open Go.RowKit
set_option linter.unusedVariables false
def evS (P : Program) (tb : Tb) (cns : List Nat) : List LO -> PS -> (PS -> Prop) -> Prop
 | [],σ,K => K σ
 | o :: os,σ,K => evO P tb cns o σ (fun σ' => evS P tb cns os σ' K)
theorem KG {K K' : PS -> Prop} (hk : ∀ σ,K σ -> K' σ) {o : LO} {d : Nat} {σ : PS} {X X' : Prop} (hX : X -> X') (h : Ox o d σ K X) : Ox o d σ K' X':=by
 unfold Ox at *
 split at h
 ·exact hX h
 ·exact h
 ·exact ⟨h.1,fun e => hX (h.2.1 e),fun e => hk _ (h.2.2 e)⟩
theorem WC {P : Program} {tb : Tb} {cns : List Nat} {K K' : PS -> Prop} (hk : ∀ σ,K σ -> K' σ) {o : LO} {σ : PS} (h : evO P tb cns o σ K) : evO P tb cns o σ K':=by
 have hp : ∀ {o : LO} {σ : PS},H3 tb o σ K -> H3 tb o σ K':=by
  intro o σ h
  unfold H3 at *
  split at h
  ·exact h
  ·split at h
   ·exact ⟨h.1,hk _ h.2⟩
   ·exact h
   ·exact ⟨h.1,fun e => ⟨(h.2.1 e).1,hk _ (h.2.1 e).2⟩,fun e => hk _ (h.2.2 e)⟩
 have hcS : ∀ {o : LO} {f : FuncId} {args : List Operand} {σ : PS},Lg P o f args σ K -> Lg P o f args σ K':=by
  intro o f args σ h
  unfold Lg at *
  split at h
  ·exact ⟨h.1,h.2.choose,h.2.choose_spec.1,hk _ h.2.choose_spec.2⟩
  ·split at h
   ·exact ⟨h.1,fun e => ⟨(h.2.1 e).1,(h.2.1 e).2.choose,(h.2.1 e).2.choose_spec.1,hk _ (h.2.1 e).2.choose_spec.2⟩,fun e => hk _ (h.2.2 e)⟩
   ·exact h
 have ha : ∀ {o : LO} {x : Operand} {d : Nat} {σ : PS},Nc tb o x d σ K -> Nc tb o x d σ K':=by
  intro o x d σ h
  unfold Nc at *
  split at h
  ·split at h
   ·exact hk _ h
   ·exact h
  ·exact hk _ h
  ·split at h
   ·exact hk _ h
   ·exact hk _ h
   ·exact hk _ h
   ·exact ⟨h.1,hk _ h.2⟩
  ·exact ⟨h.1,hk _ h.2⟩
 have hF : ∀ {o : LO} {f : FuncId} {args : List Operand} {σ : PS},JM P cns o f args σ K -> JM P cns o f args σ K':=by
  intro o f args σ h
  unfold JM at *
  split at h
  ·rename_i hc
   rw [if_pos hc]
   obtain ⟨d,hd,cs,q0,q1,q2,q3,q4⟩:=h
   exact ⟨d,hd,cs,q0,q1,q2,q3,hk _ q4⟩
  ·rename_i hc
   rw [if_neg hc]
   rcases h with h | h | h
   ·exact .inl (hcS h)
   ·refine .inr (.inl ?_)
    unfold Pu at *
    split at h
    ·exact h
    ·rename_i x xs
     have key : OB P o f x xs σ K -> OB P o f x xs σ K':=fun ⟨s,cs,cs',r,q1,q2,q3,q4,q5,q6⟩ => ⟨s,cs,cs',r,q1,q2,q3,q4,q5,hk _ q6⟩
     split at h
     ·exact ⟨h.1,key h.2⟩
     ·exact KG hk key h
   ·refine .inr (.inr ?_)
    have key : ∀ {d},Pv P d f args σ K -> Pv P d f args σ K':=fun ⟨s,xs,cs,cs',D,q1,q2,q3,q4,q5,q6,q7,q8,q9⟩ => ⟨s,xs,cs,cs',D,q1,q2,q3,q4,q5,q6,q7,q8,hk _ q9⟩
    unfold O8 at *
    split at h
    ·exact ⟨h.1,key h.2⟩
    ·exact KG hk key h
 have hu : ∀ {x : Operand} {d : Nat} {σ : PS},T6 x d σ K -> T6 x d σ K':=by
  intro x d σ h
  unfold T6 at *
  split at h
  ·split at h
   ·exact ⟨h.1,hk _ h.2⟩
   ·exact h
  ·exact h
 unfold evO at *
 split at h
 ·split at h
  ·rename_i hc; rw [if_pos hc]; exact ⟨h.1,hu h.2⟩
  ·rename_i hc; rw [if_neg hc]; exact ⟨h.1,ha h.2⟩
 ·split at h
  ·rename_i hc; rw [if_pos hc]; exact ⟨h.1,ha h.2⟩
  ·rename_i hc; rw [if_neg hc]; exact hp h
 ·split at h
  ·rename_i hc
   rw [if_pos hc]
   refine ⟨h.1,?_⟩
   have h2:=h.2
   unfold RV at *
   split at h2
   ·split at h2
    ·exact ⟨h2.1,hk _ h2.2⟩
    ·exact h2
   ·exact ⟨h2.1,hk _ h2.2⟩
   ·obtain ⟨q,g,off,e,n,m,cs,k0,hq,k1,k2,k3,k4⟩:=h2
    exact ⟨q,g,off,e,n,m,cs,k0,hq,k1,k2,k3,hk _ k4⟩
   ·exact h2
  ·rename_i hc; rw [if_neg hc]; exact hp h
 ·refine ⟨h.1,?_⟩
  have h2:=h.2
  unfold XN at *
  split at h2
  ·split at h2
   ·exact ⟨h2.1,hk _ h2.2⟩
   ·exact h2
  ·exact h2
 ·refine ⟨h.1,?_⟩
  have h2:=h.2
  unfold Yw at *
  split at h2
  ·split at h2
   ·exact ⟨h2.1,h2.2.1,h2.2.2.1,hk _ h2.2.2.2⟩
   ·exact h2
  ·obtain ⟨g,off,e,n,m,cs,D,vc,q1,q2,q3,q4,q5,q6,q7,q8,q9,q10⟩:=h2
   exact ⟨g,off,e,n,m,cs,D,vc,q1,q2,q3,q4,q5,q6,q7,q8,q9,hk _ q10⟩
  ·exact h2
 ·refine ⟨h.1,?_⟩
  have h2:=h.2
  unfold Nv at *
  split at h2
  ·exact ⟨h2.1,hk _ h2.2⟩
  ·exact h2
 ·exact ⟨h.1,h.2.1,h.2.2.1,hk _ h.2.2.2⟩
 ·refine KG hk (fun h2 => ?_) h
  unfold MM at *
  split at h2
  ·split at h2
   ·exact hk _ h2
   ·exact h2
  ·exact h2
 ·refine KG hk (fun h2 => ?_) h
  unfold XH at *
  split at h2
  ·split at h2
   ·exact ⟨h2.1,h2.2.1,hk _ h2.2.2⟩
   ·exact h2
  ·exact h2
 ·split at h
  ·rename_i hc
   rw [if_pos hc]
   refine ⟨h.1,?_⟩
   have h2:=h.2
   unfold TP at *
   split at h2
   ·exact ⟨h2.1,h2.2.1,h2.2.2.1,h2.2.2.2.1,hk _ h2.2.2.2.2⟩
   ·exact h2
  ·rename_i hc
   rw [if_neg hc]
   refine ⟨h.1,?_⟩
   have h2:=h.2
   unfold TO at *
   split at h2
   ·exact ⟨h2.1,h2.2.1,h2.2.2.1,hk _ h2.2.2.2⟩
   ·exact h2
 ·unfold MO at *
  split at h
  ·split at h
   ·exact hF h
   ·exact h
  ·refine KG hk (fun h2 => ?_) h
   unfold Wi at *
   split at h2
   ·exact ⟨h2.1,h2.2.1,h2.2.2.1,h2.2.2.2.1,h2.2.2.2.2.imp (hk _) (fun h => ⟨hk _ h.1,h.2⟩)⟩
   ·exact h2
  ·exact hp h
 ·refine KG hk (fun h2 => ?_) h
  unfold YY at *
  split at h2
  ·split at h2
   ·exact hk _ h2
   ·exact h2
  ·exact h2
 ·exact hp h
def Ka (P : Program) (nt : Nat) (bx : List Nat) (c : Code) (σ : PS) (Q : Exit -> PS -> Prop) : Prop :=
 ∀ base St0 w0 a w,Rel P nt bx base St0 w0 σ a w -> c.wp P (fun e a' w' => ∃ σ',Q e σ' ∧ Rel P nt bx base St0 w0 σ' a' w') a w
def Qp (K : PS -> Prop) (Q : Exit -> PS -> Prop) : Exit -> PS -> Prop
 | .normal,σ => K σ
 | e,σ => Q e σ
def Nz (id : Nat) (Q : Exit -> PS -> Prop) : Exit -> PS -> Prop
 | .exit id',σ => if id' = id then Q .normal σ else Q (.exit id') σ
 | e,σ => Q e σ
section
variable {P : Program} {nt : Nat} {bx : List Nat} {σ : PS} {Q : Exit -> PS -> Prop} {tb : Tb}
theorem NM (htb : KD P tb) {cns : List Nat} {ops : Array Oper} {base : Bs} {St0 : Nat -> Nat -> Prop} {w0 : World} {R : Exit -> Act -> World -> Prop} {K : PS -> Prop} (hR : ∀ σ' a' w',K σ' -> Rel P nt bx base St0 w0 σ' a' w' -> R .normal a' w') :
  ∀ (os : List Oper) (σ : PS) (a : Act) (w : World),os.all (QK nt bx) = true -> (os.map (Bd ops)).all (okA bx cns) = true -> evS P tb cns (os.map (Bd ops)) σ K -> Rel P nt bx base St0 w0 σ a w -> wpList P ops R os a w
 | [],σ,a,w,_,_,h,hr => hR σ a w h hr
 | o :: os,σ,a,w,hok,hA,h,hr => by
  simp only [List.all_cons,List.map_cons,Bool.and_eq_true] at hok hA
  have hst:=NL htb hok.1 hA.1 h base St0 w0 a w R hr
  unfold wpList
  split
  ·rename_i hw
   rw [if_pos hw] at hst
   exact .inl (Rg (fun a' w' ⟨σ',h1,h2⟩ => NM htb hR os σ' a' w' hok.2 hA.2 h1 h2) _ hst)
  ·rename_i hw
   rw [if_neg hw] at hst
   obtain ⟨σ',h1,h2⟩:=hst
   exact NM htb hR os σ' _ w hok.2 hA.2 h1 h2
theorem Qz (htb : KD P tb) (cns : List Nat) {id : Nat} {ops : Array Oper} (hok : ops.toList.all (QK nt bx) = true) (hA : (ops.toList.map (Bd ops)).all (okA bx cns) = true) (h : evS P tb cns (ops.toList.map (Bd ops)) σ (Q .normal)) : Ka P nt bx (.region id ops false) σ Q :=
 fun base St0 w0 a w hr => wp_region_list (NM htb (fun σ' a' w' h1 h2 => ⟨σ',h1,h2⟩) ops.toList σ a w hok hA h hr)
theorem TC {c : Code} {Q' : Exit -> PS -> Prop} (h : Ka P nt bx c σ Q) (hq : ∀ e σ,Q e σ -> Q' e σ) : Ka P nt bx c σ Q' :=
 fun base St0 w0 a w hr => wp_mono (h base St0 w0 a w hr) (fun e a w ⟨σ',h1,h2⟩ => ⟨σ',hq e σ' h1,h2⟩)
theorem Ui {x y : Code} (h : Ka P nt bx x σ (Qp (fun σ' => Ka P nt bx y σ' Q) Q)) : Ka P nt bx (.seq x y) σ Q:=by
 intro base St0 w0 a w hr
 refine wp_seq (wp_mono (h base St0 w0 a w hr) ?_)
 rintro (_ | id | l | _ | c | _) a' w' ⟨σ',h1,h2⟩
 ·exact h1 base St0 w0 a' w' h2
 all_goals exact ⟨σ',h1,h2⟩
theorem TD (h : Q .normal σ) : Ka P nt bx .skip σ Q:=fun base St0 w0 a w hr => wp_skip ⟨σ,h,hr⟩
theorem TB {id : Nat} (h : Q (.exit id) σ) : Ka P nt bx (.exit id) σ Q:=fun base St0 w0 a w hr => wp_exit ⟨σ,h,hr⟩
theorem Uh (h : Q .ret σ) : Ka P nt bx .ret σ Q:=fun base St0 w0 a w hr => wp_ret ⟨σ,h,hr⟩
theorem RD {id : Nat} {c : Code} (h : Ka P nt bx c σ (Nz id Q)) : Ka P nt bx (.block id c) σ Q:=by
 intro base St0 w0 a w hr
 refine wp_block (wp_mono (h base St0 w0 a w hr) ?_)
 rintro (_ | id' | l | _ | c | _) a' w' ⟨σ',h1,h2⟩
 ·exact ⟨σ',h1,h2⟩
 ·simp only [Nz] at h1
  simp only [Exit.inBlock]
  split at h1
  ·rename_i e; rw [if_pos e]; exact ⟨σ',h1,h2⟩
  ·rename_i e; rw [if_neg e]; exact ⟨σ',h1,h2⟩
 all_goals exact ⟨σ',h1,h2⟩
theorem TA {c : Operand} {x y : Code} {b : Bool} (hc : opV σ c = .bool b) (ht : b = true -> Ka P nt bx x σ Q) (hf : b = false -> Ka P nt bx y σ Q) : Ka P nt bx (.cond c x y) σ Q:=by
 intro base St0 w0 a w hr
 have he : a.eval c = .bool b:=by
  obtain ⟨St,B,h,_⟩:=hr
  obtain ⟨q,hs⟩:=Lp h c
  rw [hc] at hs
  exact IU hs
 exact wp_cond_split he (fun e => ht e base St0 w0 a w hr) (fun e => hf e base St0 w0 a w hr)
end
section
variable {P : Program} {nt : Nat} {bx : List Nat} {σ : PS} {Q : Exit -> PS -> Prop} {tb : Tb}
end
inductive LC where
 | skip
 | rgn (cns : List Nat) (ops : List LO)
 | drw (cns : List Nat) (fps : List (List Nat × List Nat)) (es : List (List Nat)) (ops : List LO)
 | seq (a b : LC)
 | cond (c : Operand) (a b : LC)
 | blk (id : Nat) (a : LC)
 | loop (D : List Nat) (a : LC)
 | exit (id : Nat)
 | ret
 | bad
def edg (o : Oper) : List Nat:=(o.after.toList.filter (Region.binds .any)).map (·.on)
def Hy : Code -> LC
 | .skip => .skip
 | .region _ ops d => if d then .drw [] [] (ops.toList.map edg) (ops.toList.map (Bd ops)) else .rgn [] (ops.toList.map (Bd ops))
 | .seq a b => .seq (Hy a) (Hy b)
 | .cond c a b => .cond c (Hy a) (Hy b)
 | .block id a => .blk id (Hy a)
 | .loop a => .loop [] (Hy a)
 | .exit id => .exit id
 | .ret => .ret
 | _ => .bad
def erC : LC -> LC
 | .skip => .skip
 | .rgn _ ops => .rgn [] ops
 | .drw _ _ es ops => .drw [] [] es ops
 | .seq a b => .seq (erC a) (erC b)
 | .cond c a b => .cond c (erC a) (erC b)
 | .blk id a => .blk id (erC a)
 | .loop _ a => .loop [] (erC a)
 | .exit id => .exit id
 | .ret => .ret
 | .bad => .bad
def okC (nt : Nat) (bx : List Nat) : Code -> Bool
 | .region _ ops _ => ops.toList.all (QK nt bx)
 | .seq a b => okC nt bx a && okC nt bx b
 | .cond _ a b => okC nt bx a && okC nt bx b
 | .block _ a => okC nt bx a
 | .loop a => okC nt bx a
 | _ => true
def okL (bx : List Nat) : LC -> Bool
 | .rgn cns ops => ops.all (okA bx cns)
 | .drw cns _ _ ops => ops.all (okA bx cns)
 | .seq a b => okL bx a && okL bx b
 | .cond _ a b => okL bx a && okL bx b
 | .blk _ a => okL bx a
 | .loop _ a => okL bx a
 | _ => true
def LS (P : Program) (nt : Nat) (bx : List Nat) (l : LC) (σ : PS) (Q : Exit -> PS -> Prop) : Prop := ∀ c,Hy c = erC l -> okC nt bx c = true -> okL bx l = true -> Ka P nt bx c σ Q
section
variable {P : Program} {nt : Nat} {bx : List Nat} {σ : PS} {Q : Exit -> PS -> Prop} {tb : Tb}
theorem X9 (htb : KD P tb) {cns : List Nat} {ops : List LO} (h : evS P tb cns ops σ (Q .normal)) : LS P nt bx (.rgn cns ops) σ Q:=by
 intro c hc hok hL
 cases c <;> first | cases hc | skip
 rename_i id ops' d
 simp only [Hy,erC] at hc
 split at hc
 ·cases hc
 ·rename_i hd
  simp only [LC.rgn.injEq,true_and] at hc
  have : d = false:=by simpa using hd
  subst this
  exact Qz htb cns hok (by rw [hc]; exact hL) (by rw [hc]; exact h)
theorem SS {x y : LC} (h : LS P nt bx x σ (Qp (fun σ' => LS P nt bx y σ' Q) Q)) : LS P nt bx (.seq x y) σ Q:=by
 intro c hc hok hL
 cases c <;> first | cases hc | skip
 ·simp only [Hy,erC] at hc; split at hc <;> cases hc
 ·rename_i a b
  simp only [Hy,erC,LC.seq.injEq] at hc
  simp only [okC,Bool.and_eq_true] at hok
  simp only [okL,Bool.and_eq_true] at hL
  refine Ui (TC (h a hc.1 hok.1 hL.1) ?_)
  rintro (_ | id | l | _ | c | _) σ' hq
  ·exact hq b hc.2 hok.2 hL.2
  all_goals exact hq
theorem Ac {x y : LC} (h : ∀ K : PS -> Prop,(∀ σ',LS P nt bx y σ' Q -> K σ') -> LS P nt bx x σ (Qp K Q)) : LS P nt bx (.seq x y) σ Q:=SS (h _ fun _ h => h)
theorem Ae (h : Q .normal σ) : LS P nt bx .skip σ Q:=by
 intro c hc hok hL
 cases c <;> first | cases hc | skip
 ·exact TD h
 ·simp only [Hy,erC] at hc; split at hc <;> cases hc
theorem Aj {id : Nat} (h : Q (.exit id) σ) : LS P nt bx (.exit id) σ Q:=by
 intro c hc hok hL
 cases c <;> first | (cases hc; done) | skip
 ·simp only [Hy,erC] at hc; split at hc <;> cases hc
 ·simp only [Hy,erC,LC.exit.injEq] at hc; subst hc; exact TB h
theorem Af (h : Q .ret σ) : LS P nt bx .ret σ Q:=by
 intro c hc hok hL
 cases c <;> first | (cases hc; done) | skip
 ·simp only [Hy,erC] at hc; split at hc <;> cases hc
 ·exact Uh h
theorem Ap {id : Nat} {x : LC} (h : LS P nt bx x σ (Nz id Q)) : LS P nt bx (.blk id x) σ Q:=by
 intro c hc hok hL
 cases c <;> first | (cases hc; done) | skip
 ·simp only [Hy,erC] at hc; split at hc <;> cases hc
 ·simp only [Hy,erC,LC.blk.injEq] at hc; obtain ⟨rfl,hc⟩:=hc; exact RD (h _ hc hok hL)
theorem U6 {c : Operand} {x y : LC} {b : Bool} (hb : opV σ c = .bool b) (ht : b = true -> LS P nt bx x σ Q) (hf : b = false -> LS P nt bx y σ Q) : LS P nt bx (.cond c x y) σ Q:=by
 intro c hc hok hL
 cases c <;> first | (cases hc; done) | skip
 ·simp only [Hy,erC] at hc; split at hc <;> cases hc
 ·simp only [Hy,erC,LC.cond.injEq] at hc
  obtain ⟨rfl,h1,h2⟩:=hc
  simp only [okC,Bool.and_eq_true] at hok
  simp only [okL,Bool.and_eq_true] at hL
  exact TA hb (fun e => ht e _ h1 hok.1 hL.1) (fun e => hf e _ h2 hok.2 hL.2)
end
section
variable {P : Program} {nt : Nat} {bx : List Nat} {σ : PS} {Q : Exit -> PS -> Prop} {tb : Tb}
end
def Kx : ResultVar -> Nat
 | .tmp t => t
 | .cell t _ => t
def resV (tb : Tb) (σ : PS) : ResultVar -> Option V
 | .tmp t => if (σ t).isArg = true then some (σ t) else none
 | .cell t ty => match σ t,tb ty with
  | .box cs,some (.st n _ _) => if cs.length = n then some (.agg cs) else none
  | .box [c],some (.sc _) => some c
  | .box [c],some (.sl ..) => some c
  | _,_ => none
def au (tb : Tb) (σ : PS) : List ResultVar -> Option (List V)
 | [] => some []
 | r :: rs => match resV tb σ r,au tb σ rs with
  | some c,some cs => some (c :: cs)
  | _,_ => none
def ar (tb : Tb) (σ : PS) (rs : List ResultVar) : Option V :=
 match au tb σ rs with
 | some [c] => some c
 | some cs => some (.tup cs)
 | none => none
section
variable {P : Program} {nt : Nat} {base : Bs} {bx : List Nat} {St : Nat -> Nat -> Prop} {B : Nat -> List Nat} {σ : PS} {a : Act} {w : World} {tb : Tb}
def MQ (tmps : Array Value) : ResultVar -> Sem Value
 | .tmp t => pure (tmps.getD t undef)
 | .cell a t => do loadVar t (<- asAddr (tmps.getD a undef))
theorem res_one (htb : KD P tb) (h : HSim P nt bx base St B [] σ a w) {r : ResultVar} {c : V} (hc : resV tb σ r = some c) :
  ∃ v bs,(MQ a.tmps r).run P w = .ok v w ∧ Ow P w St c v bs ∧ bs.Nodup ∧ (∀ g ∈ bs,g ∈ B (Kx r)) ∧ c.isArg = true:=by
 cases r with
 | tmp t =>
  simp only [resV] at hc
  split at hc
  ·rename_i hv
   simp only [Option.some.injEq] at hc
   subst hc
   exact ⟨_,B t,rfl,(h.slot t).ow (Hj hv),h.nodup t,fun _ h => h,hv⟩
  ·cases hc
 | cell t ty =>
  have hs:=h.slot t
  have hnd:=h.nodup t
  cases hb : σ t with
  | box cs =>
   rw [hb] at hs
   obtain ⟨g,T,bs',arr,e1,e2,e3,e4,e5⟩:=hs
   rw [e4] at hnd
   have hnd':=(List.nodup_cons.1 hnd).2
   have hsub : ∀ q ∈ bs',q ∈ B t:=fun q hq => by rw [e4]; exact List.mem_cons_of_mem _ hq
   have e1' : a.tmps.getD t undef = .pointer (some ⟨g,0,none⟩):=e1
   have hcell : ∀ (j : Nat) (u : Value),arr.toList[j]? = some u -> w.cell? ⟨g,0 + j,none⟩ = some u:=by
    intro j u hu
    simpa [World.cell?,e2] using hu
   have hone : ∀ (c0 : V) (dd : TyD),cs = [c0] -> tb ty = some dd -> dd.TV = false -> ∃ v bs,(MQ a.tmps (.cell t ty)).run P w = .ok v w ∧ Ow P w St c0 v bs ∧ bs.Nodup ∧ (∀ g ∈ bs,g ∈ B t) ∧ c0.isArg = true:=by
    intro c0 dd hcs hty hag
    subst hcs
    obtain ⟨u,us',b1,b2,q1,q2,q3,q4,q5⟩:=e3
    obtain ⟨rfl,rfl⟩:=q5
    have hu:=hcell 0 u (by rw [q1]; rfl)
    rw [List.append_nil] at q2
    subst q2
    refine ⟨u,bs',?_,q4,hnd',hsub,by cases c0 <;> first | rfl | cases q3⟩
    simp only [Nat.add_zero] at hu
    simp [MQ,e1',asAddr,loadVar,(htb _ _ hty).isAgg,hag,hu]
   cases hty : tb ty with
   | none => simp only [resV,hb,hty] at hc; cases cs with
    | nil => cases hc
    | cons x xs => cases xs <;> cases hc
   | some d =>
    cases d with
    | st n z f =>
     simp only [resV,hb,hty] at hc
     split at hc
     ·rename_i hl
      simp only [Option.some.injEq] at hc
      subst hc
      refine ⟨.agg arr,bs',?_,⟨arr.toList,by simp,e3⟩,hnd',hsub,rfl⟩
      have hagr:=htb _ _ hty
      have hr:=run_loadCells_list (P:=P) (w:=w) ⟨g,0,none⟩ arr.toList (fun j v hv => by rw [add_plain]; exact hcell j v hv)
      have hlen : arr.toList.length = n:=by rw [e3.length,hl]
      rw [hlen] at hr
      simp only [MQ,e1',asAddr,loadVar,Sem.run_bind,Sem.run_pure,Result.andThen_ok,hagr.isAgg,TyD.TV,if_true,hagr.sizeOf,TyD.size,hr,Array.toArray_toList]
     ·cases hc
    | sc z =>
     match cs,hb,hc with
     | [c0],hb,hc =>
      simp only [resV,hb,hty,Option.some.injEq] at hc
      subst hc
      exact hone c0 _ rfl hty rfl
     | [],hb,hc => simp only [resV,hb,hty] at hc; cases hc
     | _ :: _ :: _,hb,hc => simp only [resV,hb,hty] at hc; cases hc
    | sl e es eb ez =>
     match cs,hb,hc with
     | [c0],hb,hc =>
      simp only [resV,hb,hty,Option.some.injEq] at hc
      subst hc
      exact hone c0 _ rfl hty rfl
     | [],hb,hc => simp only [resV,hb,hty] at hc; cases hc
     | _ :: _ :: _,hb,hc => simp only [resV,hb,hty] at hc; cases hc
  | _ => simp only [resV,hb] at hc; cases hc
theorem P9 (htb : KD P tb) (h : HSim P nt bx base St B [] σ a w) : ∀ (rs : List ResultVar) (cs : List V),(rs.map Kx).Nodup -> au tb σ rs = some cs ->
  ∃ us bs,(rs.mapM (MQ a.tmps)).run P w = .ok us w ∧ IA P w St cs us bs ∧ bs.Nodup ∧ (∀ g ∈ bs,∃ r ∈ rs,g ∈ B (Kx r)) ∧ us.length = cs.length ∧ (∀ c,cs = [c] -> ∃ u,us = [u] ∧ Ow P w St c u bs)
 | [],cs,_,e => by
  simp only [au,Option.some.injEq] at e
  subst e
  exact ⟨[],[],rfl,⟨rfl,rfl⟩,List.nodup_nil,by simp,rfl,by simp⟩
 | r :: rs,cs,hn,e => by
  simp only [au] at e
  split at e
  ·rename_i c cs' hc hcs
   simp only [Option.some.injEq] at e
   subst e
   simp only [List.map_cons,List.nodup_cons] at hn
   obtain ⟨v,b1,r1,o1,n1,s1,_⟩:=res_one htb h hc
   obtain ⟨us,b2,r2,o2,n2,s2,l2,l3⟩:=P9 htb h rs cs' hn.2 hcs
   refine ⟨v :: us,b1 ++ b2,?_,⟨v,us,b1,b2,rfl,rfl,o1,o2⟩,?_,?_,by simp [l2],?_⟩
   ·simp only [List.mapM_cons,Sem.run_bind,r1,Result.andThen_ok,r2,Sem.run_pure]
   ·refine List.nodup_append.2 ⟨n1,n2,fun x hx y hy exy => ?_⟩
    subst exy
    obtain ⟨r',hr',hx'⟩:=s2 x hy
    have hne : Kx r ≠ Kx r':=fun e => hn.1 (e ▸ List.mem_map_of_mem hr')
    exact h.apart _ _ hne x (s1 x hx) hx'
   ·intro g hg
    rcases List.mem_append.1 hg with hg | hg
    ·exact ⟨r,by simp,s1 g hg⟩
    ·obtain ⟨r',h1,h2⟩:=s2 g hg; exact ⟨r',by simp [h1],h2⟩
   ·intro c0 hc0
    simp only [List.cons.injEq] at hc0
    obtain ⟨rfl,rfl⟩:=hc0
    obtain ⟨rfl,rfl⟩:=o2
    exact ⟨v,rfl,by rw [List.append_nil]; exact o1⟩
  ·cases e
theorem Xc (htb : KD P tb) (h : HSim P nt bx base St B [] σ a w) {fn : Func} (hn : (fn.results.toList.map Kx).Nodup) {c : V} (hc : ar tb σ fn.results.toList = some c) :
  ∃ v bs,(results fn a.tmps).run P w = .ok v w ∧ Ow P w St c v bs ∧ bs.Nodup ∧ ∀ g ∈ bs,∃ r ∈ fn.results.toList,g ∈ B (Kx r):=by
 unfold ar at hc
 have hrun : ∀ us,(fn.results.toList.mapM (MQ a.tmps)).run P w = .ok us w -> (results fn a.tmps).run P w = .ok (if h : us.toArray.size = 1 then us.toArray[0] else .tuple us.toArray) w:=by
  intro us hr
  have h0 : (fn.results.mapM (MQ a.tmps) : Sem (Array Value)).run P w = .ok us.toArray w:=by
   rw [Array.mapM_eq_mapM_toList,Sem.run_map,hr]; rfl
  have e2 : results fn a.tmps = (do let vs <- fn.results.mapM (MQ a.tmps); pure (if h : vs.size = 1 then vs[0] else .tuple vs) : Sem Value):=by
   unfold results
   congr 1
  rw [e2]
  simp only [Sem.run_bind,h0,Result.andThen_ok,Sem.run_pure]
 split at hc
 ·rename_i c0 hl
  simp only [Option.some.injEq] at hc
  subst hc
  obtain ⟨us,bs,r1,_,n1,s1,_,l3⟩:=P9 htb h _ _ hn hl
  obtain ⟨u,rfl,o1⟩:=l3 _ rfl
  exact ⟨u,bs,by rw [hrun _ r1]; rfl,o1,n1,s1⟩
 ·rename_i cs hne hl
  simp only [Option.some.injEq] at hc
  subst hc
  obtain ⟨us,bs,r1,o1,n1,s1,l2,_⟩:=P9 htb h _ _ hn hl
  have hlen : us.toArray.size ≠ 1:=by
   intro e
   simp only [List.size_toArray] at e
   rw [l2] at e
   obtain ⟨c,hc⟩:=List.length_eq_one_iff.1 e
   exact hne c hc
  exact ⟨.tuple us.toArray,bs,by rw [hrun _ r1,dif_neg hlen],⟨us,rfl,o1⟩,n1,s1⟩
 ·cases hc
theorem ZS (htb : KD P tb) (h : HSim P nt bx base St B [] σ a w) {fn : Func} (hn : (fn.results.toList.map Kx).Nodup) {c : V} (hc : ar tb σ fn.results.toList = some c) :
  ∃ v bs,(results fn a.tmps).run P w = .ok v w ∧ Ow P w St c v bs ∧ bs.Nodup ∧ ∀ g ∈ bs,¬ base g ∧ g < w.heap.size:=by
 obtain ⟨v,bs,h1,h2,h3,h4⟩:=Xc htb h hn hc
 exact ⟨v,bs,h1,h2,h3,fun g hg => by obtain ⟨r,_,h5⟩:=h4 g hg; exact h.range _ g h5⟩
theorem Tc {c : V} {v : Value} (hp : Lc c = true) (h : Rd w St c v) : Ow P w St c v []:=by
 cases c <;> first | exact ⟨rfl,h⟩ | cases hp
theorem QZ : ∀ (cs : List V) {us : List Value},cs.all Lc = true -> RdL w St cs us -> AC P w St cs us []
 | [],_,_,h => ⟨h,rfl⟩
 | c :: cs,_,hp,⟨u,us',e,h1,h2⟩ => by
  simp only [List.all_cons,Bool.and_eq_true] at hp
  exact ⟨u,us',[],[],e,rfl,h1.Fq,Tc hp.1 h1,QZ cs hp.2 h2⟩
theorem VA {c : V} {v : Value} (hp : QX c = true) (h : RdA w St c v) : Ow P w St c v []:=by
 cases c <;> first | exact Tc hp h | cases hp | skip
 obtain ⟨us,e,h⟩:=h
 exact ⟨us,e,QZ _ hp h⟩
def Ln (args : List V) : PS:=fun s => (args[s]?).getD (.tup [])
theorem args_at : ∀ {args : List V} {vs : List Value},O2 w St args vs -> vs.length = args.length ∧ ∀ (s : Nat) (c : V),args[s]? = some c -> ∃ v,vs[s]? = some v ∧ RdA w St c v
 | [],_,h => by rw [show _ = [] from h]; exact ⟨rfl,by simp⟩
 | c :: args,_,⟨u,us',e,h1,h2⟩ => by
  obtain ⟨l,hr⟩:=args_at h2
  refine ⟨by rw [e]; simp [l],fun s d hd => ?_⟩
  cases s with
  | zero => simp only [List.getElem?_cons_zero,Option.some.injEq] at hd; subst hd; exact ⟨u,by rw [e]; rfl,h1⟩
  | succ s => rw [e]; simpa using hr s d (by simpa using hd)
theorem VI {nt : Nat} {bx : List Nat} {args : List V} {vs : List Value} (hst : ∀ b o,St b o -> b < w.heap.size) (hgl : Glb w St) (hvs : O2 w St args vs) (hlen : args.length <= nt) (hargs : args.all QX = true) : Rel P nt bx ⟨fun b => b < w.heap.size,none⟩ St w (Ln args) { tmps:=vs.toArray ++ Array.replicate (nt - vs.toArray.size) undef,defers:=[] } w:=by
 obtain ⟨hl,hat⟩:=args_at hvs
 have htm : ∀ s,tm { tmps:=vs.toArray ++ Array.replicate (nt - vs.toArray.size) undef,defers:=[] } s = (vs[s]?).getD undef:=by
  intro s
  unfold tm
  rw [Array.getD_eq_getD_getElem?,Array.getElem?_append]
  split
  ·simp
  ·rename_i hlt
   rw [List.size_toArray] at hlt
   rw [List.getElem?_eq_none (by omega)]
   rw [Array.getElem?_replicate]
   split <;> rfl
 refine ⟨St,fun _ => [],?_,BelowK.refl _ _,fun _ _ _ => Iff.rfl,fun _ h => h⟩
 refine
 {size:=by simp; omega
  defers:=rfl
  slot:=fun s => ?_
  boxes:=fun s cs e => ?_
  crefs:=fun s b e => ?_
  nodup:=fun _ => List.nodup_nil
  apart:=fun _ _ _ g hg => by simp at hg
  hnodup:=List.nodup_nil
  hapart:=fun _ g hg => by simp at hg
  range:=fun _ g hg => by simp at hg
  hrange:=fun g hg => by simp at hg
  st:=hst
  gl:=hgl
  pin:=fun v e => by cases e }
 ·rw [htm]
  cases hc : args[s]? with
  | none =>
   have : vs[s]? = none:=by
    rw [List.getElem?_eq_none_iff] at hc ⊢; omega
   simp only [Ln,hc,this,Option.getD_none]
   exact ⟨[],rfl,rfl,rfl⟩
  | some c =>
   obtain ⟨v,hv,hr⟩:=hat s c hc
   simp only [Ln,hc,hv,Option.getD_some]
   exact (VA (List.all_eq_true.1 hargs c (List.mem_of_getElem? hc)) hr).slot
 ·simp only [Ln] at e
  cases hc : args[s]? with
  | none => rw [hc] at e; cases e
  | some c =>
   rw [hc] at e
   have hp:=List.all_eq_true.1 hargs c (List.mem_of_getElem? hc)
   simp only [Option.getD_some] at e
   cases c <;> first | (cases hp; done) | (cases e; done)
 ·simp only [Ln] at e
  cases hc : args[s]? with
  | none => rw [hc] at e; cases e
  | some c =>
   rw [hc] at e
   have hp:=List.all_eq_true.1 hargs c (List.mem_of_getElem? hc)
   simp only [Option.getD_some] at e
   cases c <;> first | (cases hp; done) | (cases e; done)
theorem Xl (htb : KD P tb) {f : FuncId} {fn : Func} {c : Code} {args : List V} {r : V} (hf : P.funcs[f]? = some fn) (hb : fn.body = some c) (hname : (fn.name == "runtime.NumGoroutine") = false) (bx : List Nat) (hlen : args.length <= fn.ntmps) (hargs : args.all QX = true)
  (hn : (fn.results.toList.map Kx).Nodup) (h : Ka P fn.ntmps bx c (Ln args) (fun e σ => (e = .ret ∨ e = .normal) ∧ ar tb σ fn.results.toList = some r)) : Ag P f args r:=by
 refine ⟨⟨fn,hf,by rw [hb]; rfl,hname⟩,fun w St vs hst hgl hvs => ?_⟩
 obtain ⟨hl,hat⟩:=args_at hvs
 refine calls_of_wp hf hb ?_
 have hrel:=VI (P:=P) (bx:=bx) hst hgl hvs hlen hargs
 refine wp_mono (h _ _ _ _ _ hrel) ?_
 rintro e a' w' ⟨σ',⟨he,hres⟩,St',B',h1,h2,h3,h4⟩
 have hfin : a'.defers = [] ∧ ∃ v,(results fn a'.tmps).run P w' = .ok v w' ∧ Ret P w St r (.returned v) w':=by
  obtain ⟨v,bs,q1,q2,q3,q4⟩:=ZS htb h1 hn hres
  exact ⟨h1.defers,v,q1,v,bs,St',rfl,⟨h2.os,h2.tape,h2.output,h2.size,h2.block⟩,h3,h1.st,q2,q3,fun g hg => ⟨Nat.le_of_not_lt (q4 g hg).1,(q4 g hg).2⟩⟩
 rcases he with rfl | rfl
 ·exact hfin
 ·exact hfin
def jA (tb : Tb) (rs : List ResultVar) (r : V) (e : Exit) (σ : PS) : Prop:=(e = .ret ∨ e = .normal) ∧ ar tb σ rs = some r
structure Lit (P : Program) (f : FuncId) (nt : Nat) (bx : List Nat) (rs : List ResultVar) (l : LC) : Prop where
 ex : ∃ fn c,P.funcs[f]? = some fn ∧ fn.body = some c ∧ (fn.name == "runtime.NumGoroutine") = false ∧ fn.ntmps = nt ∧ fn.results.toList = rs ∧ Hy c = erC l ∧ okC nt bx c = true
 nd : (rs.map Kx).Nodup
 ok : okL bx l = true
theorem VX (htb : KD P tb) {f : FuncId} {nt : Nat} {bx : List Nat} {rs : List ResultVar} {l : LC} {args : List V} {r : V} (hl : Lit P f nt bx rs l) (hlen : args.length <= nt) (hargs : args.all QX = true)
  (h : LS P nt bx l (Ln args) (jA tb rs r)) : Ag P f args r:=by
 obtain ⟨⟨fn,c,h1,h2,h3,rfl,rfl,h6,h7⟩,hn,hL⟩:=hl
 exact Xl htb h1 h2 h3 bx hlen hargs hn (h c h6 h7 hL)
end
end Go.Proofs.YtkclaipnejgloaaGreatDoor
namespace Go.Proofs.YtkclaipnejgloaaGreatDoor
open Go.RowKit
set_option linter.unusedVariables false
def opT : Operand -> List Nat
 | .tmp t => [t]
 | _ => []
def Pg (o : Op) : List Nat:=o.operands.toList.flatMap opT
def bas (R : List Nat) : V -> Bool
 | .cref s _ => R.contains s
 | .same s => R.contains s
 | .uni _ _ _ => false
 | .tok _ => R.contains gS && R.contains gU
 | _ => true
def simple (cns : List Nat) (o : LO) : Bool :=
 match o.op,o.dst with
 | .assign _,_ => false
 | .move _,some d => !cns.contains d
 | .load _ _,some d => !cns.contains d
 | .extract _ _,_ => false
 | .store _ _ _,_ => false
 | .alloc _,_ => false
 | .box _ _,_ => false
 | .build _ _,_ => false
 | .buildSlice _ _ _,_ => false
 | .makeSlice _ _ _,_ => false
 | .call c,_ => match c.callee with
  | .builtin .append => false
  | _ => true
 | _,_ => true
def gT (o : LO) : List Nat:=match o.g with
 | some (some q,_) => [q]
 | _ => []
def gO (o : LO) (s : Nat) : Bool:=(gT o).contains s && !(Pg o.op).contains s
def RO (cns R W : List Nat) (o : LO) : Bool :=
 (Pg o.op).all R.contains && (gT o).all R.contains && (o.dst.toList).all W.contains && W.all (fun s => R.contains s || o.dst == some s) && (simple cns o || R.all (fun s => W.contains s || gO o s)) && (match o.op with
  | .alloc _ => o.dst.toList.all R.contains
  | .box _ _ => false
  | .select _ _ => false
  | .assign _ | .makeSlice _ _ _ => o.dst.toList.all (fun d => !cns.contains d)
  | .call c => !UJ c || o.dst.toList.all (fun d => !cns.contains d || R.contains d)
  | _ => true)
def adP : Op -> List Nat
 | .load _ x => opT x
 | .fieldAddr _ x _ => opT x
 | .nilCheck x => opT x
 | .store _ x _ => opT x
 | .indexAddr _ x _ => opT x
 | .call c => match c.callee,c.args.toList with
  | .builtin .len,[x] => opT x
  | .value _,x :: _ => opT x
  | _,_ => []
 | _ => []
def adC : Op -> List Nat
 | .call c => match c.callee,c.args.toList with
  | .value _,x :: _ => opT x
  | _,_ => []
 | _ => []
def XF (R W : List Nat) (p : Nat) : V -> Bool
 | .box cs => W.contains p && cs.all Lc
 | .cref s _ => R.contains s && W.contains s
 | _ => true
def adS : Op -> List Nat
 | .store _ x _ => opT x
 | _ => []
def Ve : V -> Bool
 | .tok _ => false
 | _ => true
def Wd (R W : List Nat) (op : Op) (σ : PS) : Bool:=(adP op).all (fun p => bas R (σ p)) && ((adC op).all (fun p => XF R W p (σ p)) && (adS op).all (fun p => Ve (σ p)))
theorem XC {R W : List Nat} {op : Op} {σ : PS} (h : Wd R W op σ = true) : (adP op).all (fun p => bas R (σ p)) = true:=by unfold Wd at h; rw [Bool.and_eq_true] at h; exact h.1
def adU (cns : List Nat) (o : LO) : List Nat:=match o.op,o.dst with
 | .assign x,_ => opT x
 | .move x,some d => if cns.contains d = true then opT x else []
 | _,_ => []
def a7 (cns R W : List Nat) (o : LO) (σ : PS) : Prop:=RO cns R W o = true ∧ Wd R W o.op σ = true ∧ (adU cns o).all (fun p => bas R (σ p)) = true
def pt (W : List Nat) (σ' τ : PS) : PS:=fun s => if W.contains s = true then σ' s else τ s
def MT (σ : PS) : List (Nat × V) -> PS
 | [] => σ
 | (s,v) :: us => upd (MT σ us) s v
def EK (R : List Nat) (σ τ : PS) : Prop := ∀ s,R.contains s = true -> τ s = σ s
theorem Iw {σ : PS} : ∀ {us : List (Nat × V)} {s : Nat},s ∉ us.map (·.1) -> MT σ us s = σ s
 | [],_,_ => rfl
 | (q,v) :: us,s,h => by
  simp only [List.map_cons,List.mem_cons,not_or] at h
  simp only [MT]
  rw [upd_ne _ _ h.1]
  exact Iw h.2
theorem Qt {σ τ : PS} : ∀ {us : List (Nat × V)} {s : Nat},s ∈ us.map (·.1) -> MT τ us s = MT σ us s
 | [],_,h => by simp at h
 | (q,v) :: us,s,h => by
  simp only [MT]
  by_cases e : s = q
  ·subst e; rw [upd_same,upd_same]
  ·rw [upd_ne _ _ e,upd_ne _ _ e]
   simp only [List.map_cons,List.mem_cons] at h
   exact Qt (h.resolve_left e)
theorem ah {R W : List Nat} {σ τ : PS} (ha : EK R σ τ) {us : List (Nat × V)} (h1 : ∀ s ∈ us.map (·.1),W.contains s = true) (h2 : ∀ s,W.contains s = true -> s ∈ us.map (·.1) ∨ R.contains s = true) :
  MT τ us = pt W (MT σ us) τ ∧ ∀ s,W.contains s = false -> MT σ us s = σ s:=by
 constructor
 ·funext s
  unfold pt
  split
  ·rename_i hw
   by_cases hk : s ∈ us.map (·.1)
   ·exact Qt hk
   ·rw [Iw hk,Iw hk]
    exact ha s ((h2 s hw).resolve_left hk)
  ·rename_i hw
   exact Iw (fun hk => hw (h1 s hk))
 ·intro s hw
  exact Iw (fun hk => by rw [h1 s hk] at hw; cases hw)
section
variable {P : Program} {tb : Tb} {cns R W : List Nat} {σ τ : PS} {o : LO} {K : PS -> Prop}
theorem FH (ha : EK R σ τ) {x : Operand} (hx : (opT x).all R.contains = true) : opV τ x = opV σ x:=by
 cases x with
 | tmp t => simp only [opT,List.all_cons,List.all_nil,Bool.and_true] at hx; exact ha t hx
 | _ => rfl
theorem Mg (ha : EK R σ τ) {x : Operand} (hx : (opT x).all R.contains = true) : adV τ x = adV σ x:=by
 cases x with
 | tmp t => simp only [opT,List.all_cons,List.all_nil,Bool.and_true] at hx; simp only [adV,ha t hx]
 | _ => rfl
theorem Mk {x : Operand} {s off : Nat} (hb : (opT x).all (fun p => bas R (σ p)) = true) (hx : (opT x).all R.contains = true) (h : adV σ x = .cref s off) : R.contains s = true:=by
 cases x with
 | tmp t =>
  simp only [opT,List.all_cons,List.all_nil,Bool.and_true] at hb hx
  simp only [adV] at h
  split at h
  ·simp only [V.cref.injEq] at h; rw [<- h.1]; exact hx
  ·rw [h] at hb; exact hb
 | global g => exact absurd h (KI.1 _ _)
 | _ => cases h
theorem WP (ha : EK R σ τ) {x : Operand} (d : Option TyD) (hb : (opT x).all (fun p => bas R (σ p)) = true) (hx : (opT x).all R.contains = true) : LR d τ (adV τ x) = LR d σ (adV σ x) ∧ LQ d τ (adV τ x) = LQ d σ (adV σ x):=by
 rw [Mg ha hx]
 cases d with
 | none => exact ⟨rfl,rfl⟩
 | some d =>
  cases h : adV σ x with
  | cref s off =>
   have:=ha s (Mk hb hx h)
   simp only [LR,LQ,PX,N4,this]
   exact ⟨trivial,trivial⟩
  | _ => exact ⟨rfl,rfl⟩
theorem JJ {α : Type} {f g : Operand -> List α} {p : α -> Bool} {xs : List Operand} {x : Operand} (h : (xs.flatMap f).all p = true) (hx : x ∈ xs) : (f x).all p = true:=by
 rw [List.all_eq_true] at h ⊢
 exact fun a ha => h a (List.mem_flatMap.2 ⟨x,hx,ha⟩)
theorem Th (ha : EK R σ τ) {x : Operand} (hb : (opT x).all (fun p => bas R (σ p)) = true) {s : Nat} (h : opV σ x = .same s) : τ s = σ s:=by
 cases x with
 | tmp t =>
  simp only [opT,List.all_cons,List.all_nil,Bool.and_true] at hb
  rw [show σ t = .same s from h] at hb
  exact ha s hb
 | const v => exfalso; simp only [opV,cV] at h; split at h <;> (try split at h) <;> cases h
 | _ => cases h
theorem SL (ha : EK R σ τ) {x : Operand} (d : Option TyD) (hb : (opT x).all (fun p => bas R (σ p)) = true) : Wg τ (opV σ x) = Wg σ (opV σ x) ∧ OR d τ (opV σ x) = OR d σ (opV σ x):=by
 cases h : opV σ x with
 | same s => have:=Th ha hb h; simp only [Wg,OR,this]; exact ⟨trivial,trivial⟩
 | _ => exact ⟨rfl,rfl⟩
theorem UU (ha : EK R σ τ) {x : Operand} (es : Nat) (i : V) (hb : (opT x).all (fun p => bas R (σ p)) = true) : iaS τ es (opV σ x) i = iaS σ es (opV σ x) i ∧ Wf τ (opV σ x) i = Wf σ (opV σ x) i:=by
 cases h : opV σ x with
 | same s => have:=Th ha hb h; simp only [iaS,Wf,this]; exact ⟨trivial,trivial⟩
 | _ => exact ⟨rfl,rfl⟩
theorem Ue (ha : EK R σ τ) (cal : Callee) (args : List Operand) (ts : List TypeId) (h : ∀ x ∈ args,opV τ x = opV σ x) (hb : (match cal,args with | .builtin .len,[x] => opT x | _,_ => []).all (fun p => bas R (σ p)) = true) : Jc τ cal args = Jc σ cal args ∧ Ku tb τ cal args ts = Ku tb σ cal args ts:=by
 constructor
 ·unfold Jc
  split
  ·rw [h _ (by simp)]; exact (SL ha none hb).1
  ·rw [h _ (by simp),h _ (by simp)]
  ·rw [h _ (by simp),h _ (by simp)]
  ·rfl
 ·unfold Ku
  split
  ·rw [h _ (by simp)]; exact (SL ha _ hb).2
  ·rw [h _ (by simp),h _ (by simp)]
  ·rw [h _ (by simp),h _ (by simp)]
  ·rfl
theorem W8 (ha : EK R σ τ) {op : Op} (hx : (Pg op).all R.contains = true) (hb : (adP op).all (fun p => bas R (σ p)) = true) : pv tb τ op = pv tb σ op ∧ pc tb τ op = pc tb σ op:=by
 have ho : ∀ x,x ∈ op.operands.toList -> opV τ x = opV σ x:=fun x h => FH ha (JJ (g:=opT) hx h)
 cases op with
 | move x =>
  have h1:=ho x (by simp [Op.operands])
  cases x with
  | tmp t => simp only [pv,pc,mvV,mvC,show τ t = σ t from h1]; exact ⟨trivial,trivial⟩
  | _ => exact ⟨rfl,rfl⟩
 | pick c x y =>
  have h1:=ho c (by simp [Op.operands]); have h2:=ho x (by simp [Op.operands]); have h3:=ho y (by simp [Op.operands])
  have e1 : ∀ v,R4 τ x y v = R4 σ x y v:=by intro v; cases v <;> first | rfl | simp only [R4,h2,h3]
  have e2 : ∀ v,R3 τ x y v = R3 σ x y v:=by intro v; cases v <;> first | rfl | simp only [R3,h2,h3]
  simp only [pv,pc,h1,e1,e2]; exact ⟨trivial,trivial⟩
 | binOp op t x y t' => have h1:=ho x (by simp [Op.operands]); have h2:=ho y (by simp [Op.operands]); simp only [pv,pc,h1,h2]; exact ⟨trivial,trivial⟩
 | unOp op t x => have h1:=ho x (by simp [Op.operands]); simp only [pv,pc,h1]; exact ⟨trivial,trivial⟩
 | convert s d x => have h1:=ho x (by simp [Op.operands]); simp only [pv,pc,h1]; exact ⟨trivial,trivial⟩
 | load t x =>
  have hm : x ∈ (Op.load t x).operands.toList:=by simp [Op.operands]
  have:=WP ha (x:=x) (tb t) hb (JJ (g:=opT) hx hm)
  simp only [pv,pc,this.1,this.2]; exact ⟨trivial,trivial⟩
 | nilCheck x =>
  have hm : x ∈ (Op.nilCheck x).operands.toList:=by simp [Op.operands]
  have h1:=Mg ha (JJ (g:=opT) hx hm)
  have h2 : faC τ (adV σ x) = faC σ (adV σ x):=by
   cases h : adV σ x with
   | cref s off =>
    have:=ha s (Mk hb (JJ (g:=opT) hx hm) h)
    simp only [faC,this]
   | _ => rfl
  simp only [pv,pc,h1,h2]; exact ⟨trivial,trivial⟩
 | fieldAddr t x f =>
  have hm : x ∈ (Op.fieldAddr t x f).operands.toList:=by simp [Op.operands]
  have h1:=Mg ha (JJ (g:=opT) hx hm)
  have h2 : ∀ d,XO d f τ (adV σ x) = XO d f σ (adV σ x):=by
   intro d
   cases h : adV σ x with
   | cref s off =>
    have:=ha s (Mk hb (JJ (g:=opT) hx hm) h)
    simp only [XO,faC,this]
   | _ => rfl
  simp only [pv,pc,h1,h2]; exact ⟨trivial,trivial⟩
 | indexAddr t x i =>
  have h1:=ho x (by simp [Op.operands]); have h2:=ho i (by simp [Op.operands])
  simp only [pv,pc,h1,h2,al,ak]
  constructor
  ·split
   ·exact (UU ha _ _ hb).1
   ·rfl
  ·split
   ·exact (UU ha 0 _ hb).2
   ·rfl
 | index t x i => have h1:=ho x (by simp [Op.operands]); have h2:=ho i (by simp [Op.operands]); simp only [pv,pc,h1,h2]; exact ⟨trivial,trivial⟩
 | slice t x lo hi mx =>
  have h1:=ho x (by simp [Op.operands])
  have h2 : lo.map (opV τ) = lo.map (opV σ):=by cases lo with | none => rfl | some l => simp only [Option.map_some,ho l (by simp [Op.operands])]
  have h3 : hi.map (opV τ) = hi.map (opV σ):=by cases hi with | none => rfl | some l => simp only [Option.map_some,ho l (by simp [Op.operands])]
  cases mx with
  | none => simp only [pv,pc,h1,h2,h3]; exact ⟨trivial,trivial⟩
  | some m => exact ⟨rfl,rfl⟩
 | call c =>
  have h1 : ∀ x ∈ c.args.toList,opV τ x = opV σ x:=fun x h => ho x (by simp [Op.operands,Call.operands]; exact .inr (by simpa using h))
  have hb' : (match c.callee,c.args.toList with | .builtin .len,[x] => opT x | _,_ => []).all (fun p => bas R (σ p)) = true:=by
   split
   ·rename_i x e1 e2; simpa [adP,e1,e2] using hb
   ·rfl
  have h2:=Ue (tb:=tb) ha c.callee c.args.toList c.argTypes.toList h1 hb'
  simp only [pv,pc,h2.1,h2.2]; exact ⟨trivial,trivial⟩
 | _ => exact ⟨rfl,rfl⟩
def Loc (W : List Nat) (σ τ : PS) (K : PS -> Prop) (τ' : PS) : Prop := ∃ σ',K σ' ∧ τ' = pt W σ' τ ∧ ∀ s,W.contains s = false -> σ' s = σ s
theorem MD (ha : EK R σ τ) {us : List (Nat × V)} (h1 : ∀ s ∈ us.map (·.1),W.contains s = true) (h2 : ∀ s,W.contains s = true -> s ∈ us.map (·.1) ∨ R.contains s = true) (hk : K (MT σ us)) : Loc W σ τ K (MT τ us):=by
 obtain ⟨e1,e2⟩:=ah ha h1 h2
 exact ⟨_,hk,e1,e2⟩
theorem Mb (σ : PS) (x : Operand) : ∃ us : List (Nat × V),us.map (·.1) = opT x ∧ Bw σ x = MT σ us ∧ ∀ τ,EK (opT x) σ τ -> Bw τ x = MT τ us:=by
 cases x with
 | tmp t =>
  refine ⟨[(t,dg (σ t))],rfl,rfl,fun τ h => ?_⟩
  have:=h t (by simp [opT])
  simp only [Bw,MT,this]
 | const v => exact ⟨[],rfl,rfl,fun _ _ => rfl⟩
 | global g => exact ⟨[],rfl,rfl,fun _ _ => rfl⟩
 | func f => exact ⟨[],rfl,rfl,fun _ _ => rfl⟩
theorem Nq (σ : PS) (us vs : List (Nat × V)) : MT (MT σ vs) us = MT σ (us ++ vs):=by
 induction us with
 | nil => rfl
 | cons p us ih => obtain ⟨s,v⟩:=p; simp only [MT,List.cons_append,ih]
theorem HQ (h : RO cns R W o = true) : (Pg o.op).all R.contains = true ∧ (∀ q b,o.g = some (some q,b) -> R.contains q = true) ∧ (∀ d,o.dst = some d -> W.contains d = true) ∧ (∀ s,W.contains s = true -> R.contains s = true ∨ o.dst = some s) ∧ (simple cns o = true ∨ ∀ s,R.contains s = true -> W.contains s = true ∨ gO o s = true):=by
 simp only [RO,Bool.and_eq_true] at h
 obtain ⟨⟨⟨⟨⟨h1,h2⟩,h3⟩,h4⟩,h5⟩,_⟩:=h
 refine ⟨h1,fun q b e => ?_,fun d e => ?_,fun s hs => ?_,?_⟩
 ·rw [gT,e] at h2; simpa using h2
 ·rw [e] at h3; simpa using h3
 ·have:=List.all_eq_true.1 h4 s (by simpa using hs)
  simp only [Bool.or_eq_true,beq_iff_eq] at this
  exact this
 ·simp only [Bool.or_eq_true] at h5
  rcases h5 with h | h
  ·exact .inl h
  ·exact .inr fun s hs => by simpa using List.all_eq_true.1 h s (by simpa using hs)
theorem NR (hg : o.g = none) (h : ∀ s,R.contains s = true -> W.contains s = true ∨ gO o s = true) : ∀ s,R.contains s = true -> W.contains s = true:=fun s hs => by
 rcases h s hs with h | h
 ·exact h
 ·simp [gO,gT,hg] at h
theorem UD (h1 : (Pg o.op).all R.contains = true) (h : ∀ s,R.contains s = true -> W.contains s = true ∨ gO o s = true) : (Pg o.op).all W.contains = true:=by
 rw [List.all_eq_true]
 intro s hs
 rcases h s (List.all_eq_true.1 h1 s hs) with h | h
 ·exact h
 ·simp [gO,hs] at h
theorem Gq (ha : EK R σ τ) (hp : RO cns R W o = true) {d : Nat} (hd : o.dst = some d) {v : V} (hk : K (upd σ d v)) : Loc W σ τ K (upd τ d v):=by
 obtain ⟨h1,h2,h3,h4,h5⟩:=HQ hp
 refine MD (us:=[(d,v)]) ha (fun s hs => ?_) (fun s hs => ?_) hk
 ·simp only [List.map_cons,List.map_nil,List.mem_singleton] at hs; subst hs; exact h3 _ hd
 ·rcases h4 s hs with h | h
  ·exact .inr h
  ·rw [hd] at h; injection h with h; subst h; exact .inl (by simp)
theorem LY (ha : EK R σ τ) (hf : a7 cns R W o σ) (h : H3 tb o σ K) : H3 tb o τ (Loc W σ τ K):=by
 obtain ⟨h1,h2,h3,h4,h5⟩:=HQ hf.1
 have hp:=W8 (tb:=tb) ha h1 (XC hf.2.1)
 unfold H3 at *
 cases hd : o.dst with
 | none => rw [hd] at h; exact h
 | some d =>
  rw [hd] at h
  simp only at h ⊢
  cases hg : o.g with
  | none => rw [hg] at h; rw [hp.1,hp.2]; exact ⟨h.1,Gq ha hf.1 hd h.2⟩
  | some g =>
   obtain ⟨q,b⟩:=g
   rw [hg] at h
   cases q with
   | none => exact h
   | some q =>
    simp only at h ⊢
    rw [ha q (h2 q b hg),hp.1,hp.2]
    exact ⟨h.1,fun e => ⟨(h.2.1 e).1,Gq ha hf.1 hd (h.2.1 e).2⟩,fun e => Gq ha hf.1 hd (h.2.2 e)⟩
theorem Mq (ha : EK R σ τ) (hf : a7 cns R W o σ) {d : Nat} (hd : o.dst = some d) {X X' : Prop} (hX : X -> X') (h : Ox o d σ K X) : Ox o d τ (Loc W σ τ K) X':=by
 obtain ⟨h1,h2,h3,h4,h5⟩:=HQ hf.1
 unfold Ox at *
 cases hg : o.g with
 | none => rw [hg] at h; exact hX h
 | some g =>
  obtain ⟨q,b⟩:=g
  rw [hg] at h
  cases q with
  | none => exact h
  | some q =>
   simp only at h ⊢
   rw [ha q (h2 q b hg)]
   exact ⟨h.1,fun e => hX (h.2.1 e),fun e => Gq ha hf.1 hd (h.2.2 e)⟩
theorem Ud (ha : EK R σ τ) (hf : a7 cns R W o σ) {f : FuncId} {args : List Operand} (hargs : ∀ x ∈ args,(opT x).all R.contains = true) (h : Lg P o f args σ K) : Lg P o f args τ (Loc W σ τ K):=by
 obtain ⟨h1,h2,h3,h4,h5⟩:=HQ hf.1
 have e0 : (args.map fun x => er (opV τ x)) = args.map fun x => er (opV σ x):=List.map_congr_left fun x hx => by rw [FH ha (hargs x hx)]
 have e0' : (args.map fun x => erK (opV τ x)) = args.map fun x => erK (opV σ x):=List.map_congr_left fun x hx => by rw [FH ha (hargs x hx)]
 have e0'' : (args.map fun x => opV τ x) = args.map fun x => opV σ x:=List.map_congr_left fun x hx => by rw [FH ha (hargs x hx)]
 have e1 : XA P τ f args = XA P σ f args:=by unfold XA; rw [e0,e0',e0'']
 have e2 : args.all (fun x => (opV τ x).isArg) = args.all (fun x => (opV σ x).isArg):=by
  rw [Bool.eq_iff_iff,List.all_eq_true,List.all_eq_true]
  exact ⟨fun h x hx => by have:=h x hx; rwa [FH ha (hargs x hx)] at this,fun h x hx => by rw [FH ha (hargs x hx)]; exact h x hx⟩
 unfold Lg at *
 rw [e1,e2]
 cases hg : o.g with
 | none =>
  rw [hg] at h
  obtain ⟨q1,r,q2,q3⟩:=h
  refine ⟨q1,r,q2,?_⟩
  cases hd : o.dst with
  | none =>
   rw [hd] at q3
   simp only [TY] at q3 ⊢
   refine MD (us:=[]) ha (by simp) (fun s hs => ?_) q3
   rcases h4 s hs with h | h
   ·exact .inr h
   ·rw [hd] at h; cases h
  | some d => rw [hd] at q3; exact Gq ha hf.1 hd q3
 | some g =>
  obtain ⟨q,b⟩:=g
  rw [hg] at h
  simp only at h ⊢
  cases q with
  | none => exact h
  | some q =>
   cases hd : o.dst with
   | none => rw [hd] at h; exact h
   | some d =>
    rw [hd] at h
    simp only at h ⊢
    rw [ha q (h2 q b hg)]
    obtain ⟨q1,q2,q3⟩:=h
    refine ⟨q1,fun e => ?_,fun e => Gq ha hf.1 hd (q3 e)⟩
    obtain ⟨q4,r,q5,q6⟩:=q2 e
    exact ⟨q4,r,q5,Gq ha hf.1 hd q6⟩
theorem LT (ha : EK R σ τ) (hp : RO cns R W o = true) {us : List (Nat × V)} (h1 : ∀ s ∈ us.map (·.1),W.contains s = true) (h2 : ∀ d,o.dst = some d -> d ∈ us.map (·.1)) (hk : K (MT σ us)) : Loc W σ τ K (MT τ us):=by
 obtain ⟨q1,q2,q3,q4,q5⟩:=HQ hp
 refine MD ha h1 (fun s hs => ?_) hk
 rcases q4 s hs with h | h
 ·exact .inr h
 ·exact .inl (h2 s h)
theorem Uc (ha : EK R σ τ) (hf : a7 cns R W o σ) {f : FuncId} {args : List Operand} (hargs : ∀ x ∈ args,(opT x).all R.contains = true) (hadc : ∀ x xs,args = x :: xs -> (opT x).all (fun p => XF R W p (σ p)) = true) (h : Pu P o f args σ K) : Pu P o f args τ (Loc W σ τ K):=by
 obtain ⟨h1,h2,h3,h4,h5⟩:=HQ hf.1
 unfold Pu at *
 split at h
 ·exact h
 ·rename_i x xs
  have key : OB P o f x xs σ K -> OB P o f x xs τ (Loc W σ τ K):=by
   rintro ⟨s,cs,cs',r,q1,q2,q3,q4,q5,q6⟩
   have hx:=hargs x (by simp)
   have hw:=hadc x xs rfl
   have hsw : R.contains s = true ∧ W.contains s = true:=by
    cases x with
    | tmp t =>
     simp only [opT,List.all_cons,List.all_nil,Bool.and_true] at hw hx
     simp only [adV] at q1
     split at q1
     ·rename_i cs0 hb
      simp only [V.cref.injEq] at q1
      rw [hb] at hw
      rw [<- q1.1]
      simp only [XF,Bool.and_eq_true] at hw
      exact ⟨hx,hw.1⟩
     ·rw [q1] at hw
      simpa [XF] using hw
    | global g => exact absurd q1 (KI.1 _ _)
    | _ => cases q1
   have e1 : (xs.map fun x => er (opV τ x)) = xs.map fun x => er (opV σ x):=List.map_congr_left fun x hx => by rw [FH ha (hargs x (by simp [hx]))]
   have e2 : xs.all (fun x => (opV τ x).isArg) = true:=by
    rw [List.all_eq_true] at q4 ⊢
    exact fun x hx => by rw [FH ha (hargs x (by simp [hx]))]; exact q4 x hx
   refine ⟨s,cs,cs',r,by rw [Mg ha hx]; exact q1,by rw [ha s hsw.1]; exact q2,q3,e2,by rw [e1]; exact q5,?_⟩
   cases hd : o.dst with
   | none =>
    rw [hd] at q6
    simp only [TY] at q6 ⊢
    refine MD (us:=[(s,.box cs')]) ha (fun q hq => ?_) (fun q hq => ?_) q6
    ·simp only [List.map_cons,List.map_nil,List.mem_singleton] at hq; subst hq; exact hsw.2
    ·rcases h4 q hq with h | h
     ·exact .inr h
     ·rw [hd] at h; cases h
   | some d =>
    rw [hd] at q6
    simp only [TY] at q6 ⊢
    refine MD (us:=[(d,r),(s,.box cs')]) ha (fun q hq => ?_) (fun q hq => ?_) q6
    ·simp only [List.map_cons,List.map_nil,List.mem_cons,List.not_mem_nil,or_false] at hq
     rcases hq with rfl | rfl
     ·exact h3 _ hd
     ·exact hsw.2
    ·rcases h4 q hq with h | h
     ·exact .inr h
     ·rw [hd] at h; injection h with h; subst h; exact .inl (by simp)
  split at h
  ·exact ⟨h.1,key h.2⟩
  ·rename_i d hd
   exact Mq ha hf hd key h
theorem Ni (ha : EK R σ τ) (hp : RO cns R W o = true) (hns : ∀ s,R.contains s = true -> W.contains s = true) {us : List (Nat × V)} (h1 : ∀ s ∈ us.map (·.1),R.contains s = true ∨ o.dst = some s) (h2 : ∀ d,o.dst = some d -> d ∈ us.map (·.1)) (hk : K (MT σ us)) : Loc W σ τ K (MT τ us):=by
 obtain ⟨q1,q2,q3,q4,q5⟩:=HQ hp
 refine MD ha (fun s hs => ?_) (fun s hs => ?_) hk
 ·rcases h1 s hs with h | h
  ·exact hns s h
  ·exact q3 s h
 ·rcases q4 s hs with h | h
  ·exact .inr h
  ·exact .inl (h2 s h)
theorem Nu {x : Operand} (ha : EK R σ τ) (hx : (opT x).all R.contains = true) : EK (opT x) σ τ:=fun s hs => ha s (List.all_eq_true.1 hx s (by simpa using hs))
theorem ME {x : Operand} {s : Nat} (hx : (opT x).all R.contains = true) (h : s ∈ opT x) : R.contains s = true:=List.all_eq_true.1 hx s h
theorem SR (ha : EK R σ τ) (hp : RO cns R W o = true) (hns : ∀ s,R.contains s = true -> W.contains s = true) {x : Operand} (hx : (opT x).all R.contains = true) {d : Nat} {v : V} (hd : o.dst = some d) (hk : K (upd (Bw σ x) d v)) : Loc W σ τ K (upd (Bw τ x) d v):=by
 obtain ⟨us,e1,e2,e3⟩:=Mb σ x
 rw [e3 τ (Nu ha hx)]
 rw [e2] at hk
 refine Ni (us:=(d,v) :: us) ha hp hns (fun s hs => ?_) (fun d' h => ?_) hk
 ·simp only [List.map_cons,List.mem_cons,e1] at hs
  rcases hs with rfl | hs
  ·exact .inr hd
  ·exact .inl (ME hx hs)
 ·rw [hd] at h; injection h with h; subst h; simp
theorem Sq (ha : EK R σ τ) (hp : RO cns R W o = true) (hns : ∀ s,R.contains s = true -> W.contains s = true) {x : Operand} (hx : (opT x).all R.contains = true) (hu : (opT x).all (fun p => bas R (σ p)) = true) {d : Nat} (hd : o.dst = some d) (h : Nc tb o x d σ K) : Nc tb o x d τ (Loc W σ τ K):=by
 unfold Nc at *
 split at h
 ·split at h
  ·exact Gq ha hp hd h
  ·exact h
 ·exact Gq ha hp hd h
 ·rename_i p
  have e1 : τ p = σ p:=FH ha hx
  rw [e1]
  split at h
  ·rename_i hs
   simp only [opT,List.all_cons,List.all_nil,Bool.and_true,hs,bas] at hu
   cases hu
  ·exact Gq ha hp hd h
  ·exact Gq ha hp hd h
  ·exact ⟨h.1,SR ha hp hns hx hd h.2⟩
 ·rw [FH ha hx]
  exact ⟨h.1,SR ha hp hns hx hd h.2⟩
theorem PJ (place : Nat -> Option (Nat × Nat)) : ∀ (parts : List (Nat × Operand)) (σ σ' : PS) (cs cs' : List V),KQ place parts σ cs = some (σ',cs') -> ∃ us : List (Nat × V),(∀ s ∈ us.map (·.1),s ∈ parts.flatMap (fun p => opT p.2)) ∧ σ' = MT σ us ∧ ∀ τ,EK (parts.flatMap (fun p => opT p.2)) σ τ -> KQ place parts τ cs = some (MT τ us,cs')
 | [],σ,σ',cs,cs',h => by
  simp only [KQ,Option.some.injEq,Prod.mk.injEq] at h
  obtain ⟨rfl,rfl⟩:=h
  exact ⟨[],by simp,rfl,fun τ _ => rfl⟩
 | (i,x) :: parts,σ,σ',cs,cs',h => by
  simp only [KQ] at h
  cases hp : place i with
  | none => rw [hp] at h; cases h
  | some q =>
   obtain ⟨off,sz⟩:=q
   rw [hp] at h
   simp only at h
   split at h
   ·rename_i hc
    obtain ⟨us,e1,e2,e3⟩:=PJ place parts _ _ _ _ h
    obtain ⟨vs,f1,f2,f3⟩:=Mb σ x
    refine ⟨us ++ vs,fun s hs => ?_,by rw [e2,f2,Nq],fun τ ha => ?_⟩
    ·rw [List.map_append,List.mem_append] at hs
     rw [List.flatMap_cons,List.mem_append]
     rcases hs with hs | hs
     ·exact .inr (e1 s hs)
     ·exact .inl (by rw [f1] at hs; exact hs)
    ·have hx : opV τ x = opV σ x:=by
      cases x with
      | tmp t => exact ha t (by simp [opT])
      | _ => rfl
     have hag : EK (opT x) σ τ:=fun s hs => ha s (by simp only [List.flatMap_cons,List.contains_eq_mem,List.mem_append,decide_eq_true_eq] at *; exact .inl hs)
     simp only [KQ,hp,hx]
     rw [if_pos hc]
     have hag2 : EK (parts.flatMap (fun p => opT p.2)) (Bw σ x) (Bw τ x):=by
      intro s hs
      rw [f2,f3 τ hag]
      by_cases hk : s ∈ vs.map (·.1)
      ·exact Qt hk
      ·rw [Iw hk,Iw hk]
       exact ha s (by simp only [List.flatMap_cons,List.contains_eq_mem,List.mem_append,decide_eq_true_eq] at *; exact .inr hs)
     rw [e3 _ hag2,f3 τ hag,Nq]
   ·cases h
theorem LX {R : List Nat} {parts : Array (Nat × Operand)} (hx : ((parts.toList.map (·.2)).toArray.toList.flatMap opT).all R.contains = true) : ∀ s ∈ parts.toList.flatMap (fun p => opT p.2),R.contains s = true:=by
 intro s hs
 rw [List.all_eq_true] at hx
 refine hx s ?_
 rw [List.mem_flatMap] at hs ⊢
 obtain ⟨p,hp,h⟩:=hs
 exact ⟨p.2,(show p.2 ∈ parts.toList.map (·.2) from List.mem_map_of_mem hp),h⟩
theorem V6 {x : Operand} {u : Value} (hx : adV σ x = .tok u) (hb : (opT x).all (fun p => bas R (σ p)) = true) : R.contains gS = true ∧ R.contains gU = true:=by
 cases x with
 | tmp s =>
  have hs : σ s = .tok u:=by
   unfold adV at hx
   simp only at hx
   split at hx
   ·cases hx
   ·exact hx
  simp only [opT,hs,List.all_cons,List.all_nil,Bool.and_true,bas,Bool.and_eq_true] at hb
  exact hb
 | global g => exact absurd hx (KI.2.1 _)
 | _ => cases hx
theorem d5 {x : Operand} {u : Value} (hx : adV σ x = .tok u) (hb : (opT x).all (fun p => Ve (σ p)) = true) : False:=by
 cases x with
 | tmp s =>
  have hs : σ s = .tok u:=by
   unfold adV at hx
   simp only at hx
   split at hx
   ·cases hx
   ·exact hx
  simp [opT,hs,Ve] at hb
 | global g => exact absurd hx (KI.2.1 _)
 | _ => cases hx
theorem WB (ha : EK R σ τ) (hf : a7 cns R W o σ) (h : evO P tb cns o σ K) : evO P tb cns o τ (Loc W σ τ K):=by
 obtain ⟨h1,h2,h3,h4,h5⟩:=HQ hf.1
 have hx:=h1
 have hb:=XC hf.2.1
 have hub:=hf.2.2
 unfold evO at *
 split at h
 ·rename_i x d ho hd
  rw [ho] at hx
  have hcd : ¬ cns.contains d = true:=by
   have:=hf.1
   simp only [RO,ho,hd,Bool.and_eq_true] at this
   have:=this.2
   simpa using this
  rw [if_neg hcd] at h ⊢
  have hns:=NR h.1 (h5.resolve_left (by simp [simple,ho]))
  exact ⟨h.1,Sq ha hf.1 hns (by simpa [Pg,Op.operands] using hx) (by simpa [adU,ho] using hub) hd h.2⟩
 ·rename_i x d ho hd
  split at h
  ·rename_i hc
   rw [if_pos hc]
   have hns:=NR h.1 (h5.resolve_left (by simp [simple,ho,hd]; simpa using hc))
   rw [ho] at hx
   have hub' : (opT x).all (fun p => bas R (σ p)) = true:=by
    simp only [adU,ho,hd] at hub
    rw [if_pos hc] at hub
    exact hub
   exact ⟨h.1,Sq ha hf.1 hns (by simpa [Pg,Op.operands] using hx) hub' hd h.2⟩
  ·rename_i hc; rw [if_neg hc]; exact LY ha hf h
 ·rename_i t x d ho hd
  split at h
  ·rename_i hc
   rw [if_pos hc]
   have hns:=NR h.1 (h5.resolve_left (by simp [simple,ho,hd]; simpa using hc))
   rw [ho] at hx hb
   have hx' : (opT x).all R.contains = true:=by simpa [Pg,Op.operands] using hx
   have hb' : (opT x).all (fun p => bas R (σ p)) = true:=hb
   refine ⟨h.1,?_⟩
   have h2:=h.2
   unfold RV at *
   rw [Mg ha hx']
   split at h2
   ·rename_i dd s off ht hax
    have hs:=ha s (Mk hb' hx' hax)
    rw [hs]
    split at h2
    ·refine ⟨h2.1,?_⟩
     refine Ni (us:=[(d,_),(s,_)]) ha hf.1 hns (fun q hq => ?_) (fun d' hd' => ?_) h2.2
     ·simp only [List.map_cons,List.map_nil,List.mem_cons,List.not_mem_nil,or_false] at hq
      rcases hq with rfl | rfl
      ·exact .inr hd
      ·exact .inl (Mk hb' hx' hax)
     ·rw [hd] at hd'; injection hd' with hd'; subst hd'; simp
    ·exact h2
   ·exact ⟨h2.1,Gq ha hf.1 hd h2.2⟩
   ·rename_i hax
    obtain ⟨q,g,off,e,n,m,cs,k0,hq,k1,k2,k3,k4⟩:=h2
    have hqR : R.contains q = true:=by
     rcases hq with rfl | rfl
     ·exact (V6 hax hb').1
     ·exact (V6 hax hb').2
    exact ⟨q,g,off,e,n,m,cs,k0,hq,by rw [ha q hqR]; exact k1,k2,k3,Gq ha hf.1 hd k4⟩
   ·exact h2
  ·rename_i hc; rw [if_neg hc]; exact LY ha hf h
 ·rename_i s i d ho hd
  have hns:=NR h.1 (h5.resolve_left (by simp [simple,ho]))
  rw [ho] at hx
  have hs : R.contains s = true:=by simpa [Pg,Op.operands,opT] using hx
  refine ⟨h.1,?_⟩
  have h2:=h.2
  unfold XN at *
  rw [ha s hs]
  split at h2
  ·split at h2
   ·refine ⟨h2.1,Ni (us:=[(d,_),(s,_)]) ha hf.1 hns (fun q hq => ?_) (fun d' hd' => ?_) h2.2⟩
    ·simp only [List.map_cons,List.map_nil,List.mem_cons,List.not_mem_nil,or_false] at hq
     rcases hq with rfl | rfl
     ·exact .inr hd
     ·exact .inl hs
    ·rw [hd] at hd'; injection hd' with hd'; subst hd'; simp
   ·exact h2
  ·exact h2
 ·rename_i t x y ho hd
  have hns:=NR h.1 (h5.resolve_left (by simp [simple,ho]))
  rw [ho] at hx hb
  have hxy : (opT x).all R.contains = true ∧ (opT y).all R.contains = true:=by simpa [Pg,Op.operands,List.all_append] using hx
  have hb' : (opT x).all (fun p => bas R (σ p)) = true:=hb
  refine ⟨h.1,?_⟩
  have h2:=h.2
  unfold Yw at *
  rw [Mg ha hxy.1,FH ha hxy.2]
  split at h2
  ·rename_i dd s off ht hax
   have hsR:=Mk hb' hxy.1 hax
   rw [ha s hsR]
   split at h2
   ·obtain ⟨q1,q2,q3,q4⟩:=h2
    refine ⟨q1,q2,q3,?_⟩
    obtain ⟨us,e1,e2,e3⟩:=Mb σ y
    rw [e3 τ (Nu ha hxy.2)]
    rw [e2] at q4
    refine Ni (us:=(s,_) :: us) ha hf.1 hns (fun q hq => ?_) (fun d' hd' => by rw [hd] at hd'; cases hd') q4
    simp only [List.map_cons,List.mem_cons,e1] at hq
    rcases hq with rfl | hq
    ·exact .inl hsR
    ·exact .inl (ME hxy.2 hq)
   ·exact h2
  ·rename_i hax
   have h9:=hf.2.1
   unfold Wd at h9
   rw [Bool.and_eq_true,Bool.and_eq_true,ho] at h9
   exact (d5 hax h9.2.2).elim
  ·exact h2
 ·rename_i t d ho hd
  have hdR : R.contains d = true:=by
   have:=hf.1
   simp only [RO,ho,hd,Bool.and_eq_true] at this
   simpa using this.2
  refine ⟨h.1,?_⟩
  have h2:=h.2
  unfold Nv at *
  split at h2
  ·exact ⟨by rw [ha d hdR]; exact h2.1,Gq ha hf.1 hd h2.2⟩
  ·exact h2
 ·rename_i t x d ho hd; have:=hf.1; simp [RO,ho] at this
 ·rename_i t ps d ho hd
  have hW:=UD h1 (h5.resolve_left (by simp [simple,ho]))
  rw [ho] at hW
  rw [ho] at hx
  refine Mq ha hf hd (fun h2 => ?_) h
  unfold MM at *
  split at h2
  ·split at h2
   ·rename_i σ' cs hfl
    obtain ⟨us,e1,e2,e3⟩:=PJ _ _ _ _ _ _ hfl
    have hp:=LX (R:=R) (parts:=ps) (by simpa [Pg,Op.operands] using hx)
    have hpW:=LX (R:=W) (parts:=ps) (by simpa [Pg,Op.operands] using hW)
    rw [e3 τ (fun s hs => ha s (hp s (by simpa using hs)))]
    rw [e2] at h2
    refine LT (us:=(d,_) :: us) ha hf.1 (fun q hq => ?_) (fun d' hd' => ?_) h2
    ·simp only [List.map_cons,List.mem_cons] at hq
     rcases hq with rfl | hq
     ·exact h3 _ hd
     ·exact hpW q (e1 q hq)
    ·rw [hd] at hd'; injection hd' with hd'; subst hd'; simp
   ·exact h2.elim
  ·exact h2
 ·rename_i t n ps d ho hd
  have hW:=UD h1 (h5.resolve_left (by simp [simple,ho]))
  rw [ho] at hW
  rw [ho] at hx
  refine Mq ha hf hd (fun h2 => ?_) h
  unfold XH at *
  split at h2
  ·split at h2
   ·rename_i σ' cs hfl
    obtain ⟨us,e1,e2,e3⟩:=PJ _ _ _ _ _ _ hfl
    have hp:=LX (R:=R) (parts:=ps) (by simpa [Pg,Op.operands] using hx)
    have hpW:=LX (R:=W) (parts:=ps) (by simpa [Pg,Op.operands] using hW)
    rw [e3 τ (fun s hs => ha s (hp s (by simpa using hs)))]
    rw [e2] at h2
    refine ⟨h2.1,h2.2.1,LT (us:=(d,_) :: us) ha hf.1 (fun q hq => ?_) (fun d' hd' => ?_) h2.2.2⟩
    ·simp only [List.map_cons,List.mem_cons] at hq
     rcases hq with rfl | hq
     ·exact h3 _ hd
     ·exact hpW q (e1 q hq)
    ·rw [hd] at hd'; injection hd' with hd'; subst hd'; simp
   ·exact h2.elim
  ·exact h2
 ·rename_i t x y d ho hd
  rw [ho] at hx
  have hxy : (opT x).all R.contains = true ∧ (opT y).all R.contains = true:=by simpa [Pg,Op.operands,List.all_append] using hx
  have hcd : ¬ cns.contains d = true:=by
   have:=hf.1
   simp only [RO,ho,hd,Bool.and_eq_true] at this
   have:=this.2
   simpa using this
  rw [if_neg hcd] at h ⊢
  refine ⟨h.1,?_⟩
  have h2:=h.2
  unfold TO at *
  rw [FH ha hxy.1,FH ha hxy.2]
  split at h2
  ·exact ⟨h2.1,h2.2.1,h2.2.2.1,Gq ha hf.1 hd h2.2.2.2⟩
  ·exact h2
 ·rename_i d c ho
  rw [ho] at hx
  have hargs : ∀ x ∈ c.args.toList,(opT x).all R.contains = true:=fun x hxm => JJ (g:=opT) hx (by simp only [Op.operands,Call.operands]; simp; exact .inr (by simpa using hxm))
  unfold MO at *
  split at h
  ·rename_i x hcal
   have hgo : UJ c = true:=by unfold UJ; rw [hcal]
   rw [FH ha (JJ (g:=opT) (x:=x) hx (by simp only [Op.operands,Call.operands,hcal]; simp))]
   split at h
   ·rename_i f hcv
    unfold JM at *
    split at h
    ·rename_i hc
     rw [if_pos hc]
     obtain ⟨d',hd',cs,q0,q1,q2,q3,q4⟩:=h
     have hcc : cns.contains d' = true:=by rw [hd'] at hc; simpa using hc
     have hdR : R.contains d' = true:=by
      have:=hf.1
      simp only [RO,ho,hd',hgo,Bool.and_eq_true] at this
      have:=this.2
      have hm : d' ∈ cns:=by simpa using hcc
      simpa [hm] using this
     have e1 : (c.args.toList.map fun x => erK (opV τ x)) = c.args.toList.map fun x => erK (opV σ x):=List.map_congr_left fun x hx => by rw [FH ha (hargs x hx)]
     have e2 : c.args.toList.all (fun x => (opV τ x).isArg) = true:=by
      rw [List.all_eq_true] at q2 ⊢
      exact fun x hx => by rw [FH ha (hargs x hx)]; exact q2 x hx
     exact ⟨d',hd',cs,q0,by rw [ha d' hdR]; exact q1,e2,by rw [e1]; exact q3,Gq ha hf.1 hd' q4⟩
    ·rename_i hc
     rw [if_neg hc]
     have hadc : ∀ x xs,c.args.toList = x :: xs -> (opT x).all (fun p => XF R W p (σ p)) = true:=fun x xs e => by
      have:=hf.2.1
      unfold Wd at this
      rw [Bool.and_eq_true,Bool.and_eq_true] at this
      simpa [adC,ho,hcal,e] using this.2.1
     rcases h with h | h | h
     ·exact .inl (Ud ha hf hargs h)
     ·exact .inr (.inl (Uc ha hf hargs hadc h))
     ·have key : ∀ {d} {X : Prop},Pv P d f c.args.toList σ K -> X:=fun ⟨s,xs,cs,cs',D,q2,q3,q4,_⟩ => by
       have h9:=hadc _ _ q2
       simp only [opT,List.all_cons,List.all_nil,Bool.and_true,q3,XF,q4,Bool.and_false] at h9
       cases h9
      refine .inr (.inr ?_)
      unfold O8 at *
      split at h
      ·exact key h.2
      ·rename_i d' hd'
       exact Mq ha hf hd' key h
   ·exact h
  ·rename_i d' x y t t' hcal hd hargs' hts
   have hW:=UD h1 (h5.resolve_left (by simp [simple,ho,hcal]))
   rw [ho] at hW
   have hargsW : ∀ x ∈ c.args.toList,(opT x).all W.contains = true:=fun x hxm => JJ (g:=opT) hW (by simp only [Op.operands,Call.operands]; simp; exact .inr (by simpa using hxm))
   have hxW:=hargsW x (by rw [hargs']; simp)
   have hyW:=hargsW y (by rw [hargs']; simp)
   have hx1:=hargs x (by rw [hargs']; simp)
   have hy1:=hargs y (by rw [hargs']; simp)
   refine Mq ha hf hd (fun h2 => ?_) h
   unfold Wi at *
   obtain ⟨us,e1,e2,e3⟩:=Mb σ x
   have hag : EK R (Bw σ x) (Bw τ x):=by
    intro s hs
    rw [e2,e3 τ (Nu ha hx1)]
    by_cases hk : s ∈ us.map (·.1)
    ·exact Qt hk
    ·rw [Iw hk,Iw hk]; exact ha s hs
   rw [FH ha hx1,FH hag hy1]
   split at h2
   ·obtain ⟨q1,q2,q3,q4,q5⟩:=h2
    refine ⟨q1,q2,q3,q4,?_⟩
    obtain ⟨vs,f1,f2,f3⟩:=Mb (Bw σ x) y
    have k1 : Bw (Bw σ x) y = MT σ (vs ++ us):=by rw [f2,e2,Nq]
    have k2 : Bw (Bw τ x) y = MT τ (vs ++ us):=by rw [f3 _ (Nu hag hy1),e3 τ (Nu ha hx1),Nq]
    rw [k1] at q5
    rw [k2]
    refine q5.imp (fun q5 => ?_) (fun q5 => ⟨?_,q5.2⟩)
    ·refine LT (us:=(d',_) :: (vs ++ us)) ha hf.1 (fun q hq => ?_) (fun d'' hd' => ?_) q5
     ·simp only [List.map_cons,List.map_append,List.mem_cons,List.mem_append,e1,f1] at hq
      rcases hq with rfl | hq | hq
      ·exact h3 _ hd
      ·exact ME hyW hq
      ·exact ME hxW hq
     ·rw [hd] at hd'; injection hd' with hd'; subst hd'; simp
    ·refine LT (us:=(d',_) :: (d',_) :: (vs ++ us)) ha hf.1 (fun q hq => ?_) (fun d'' hd' => ?_) q5.1
     ·simp only [List.map_cons,List.map_append,List.mem_cons,List.mem_append,e1,f1] at hq
      rcases hq with rfl | rfl | hq | hq
      ·exact h3 _ hd
      ·exact h3 _ hd
      ·exact ME hyW hq
      ·exact ME hxW hq
     ·rw [hd] at hd'; injection hd' with hd'; subst hd'; simp
   ·exact h2
  ·exact LY ha hf h
 ·rename_i t x f d ho hd
  rw [ho] at hx
  refine Mq ha hf hd (fun h2 => ?_) h
  unfold YY at *
  rw [FH ha (by simpa [Pg,Op.operands] using hx)]
  split at h2
  ·split at h2
   ·exact Gq ha hf.1 hd h2
   ·exact h2
  ·exact h2
 ·exact LY ha hf h
end
def ptS (cns : List Nat) : List Nat:=(cns.filter (fun c => Nat.ble 2000000 c)).map (fun c => c - 2000000)
def aK : V -> Bool
 | .box _ => true
 | _ => false
def bxS (cns : List Nat) (σ : PS) : Bool:=(ptS cns).all (fun p => aK (σ p))
def spc (cns : List Nat) (o : LO) : Bool:=match o.op,o.dst,o.g with
 | .move (.tmp p),some d,none => !cns.contains d && (ptS cns).contains p
 | _,_,_ => false
def fpX (cns R W : List Nat) (o : LO) : Bool:=spc cns o && ((o.dst.toList).all W.contains && W.all (fun s => o.dst == some s))
def fpB (cns R W : List Nat) (o : LO) : Bool:=RO cns R W o || fpX cns R W o
def adB (cns R : List Nat) (o : LO) (σ : PS) : Bool:=(adU cns o).all (fun p => bas R (σ p)) && bxS cns σ
def fpS (cns R W : List Nat) (o : LO) (σ : PS) : Prop:=fpB cns R W o = true ∧ Wd R W o.op σ = true ∧ adB cns R o σ = true
theorem RK {P : Program} {tb : Tb} {cns R W : List Nat} {σ τ : PS} {o : LO} {K : PS -> Prop} (ha : EK R σ τ) (hτ : bxS cns τ = true) (hf : fpS cns R W o σ) (h : evO P tb cns o σ K) : evO P tb cns o τ (Loc W σ τ K):=by
 obtain ⟨h1,h2,h3⟩:=hf
 unfold adB at h3
 rw [Bool.and_eq_true] at h3
 unfold fpB at h1
 rw [Bool.or_eq_true] at h1
 rcases h1 with h1 | h1
 ·exact WB ha ⟨h1,h2,h3.1⟩ h
 ·unfold fpX at h1
  rw [Bool.and_eq_true,Bool.and_eq_true] at h1
  obtain ⟨hs,hw1,hw2⟩:=h1
  obtain ⟨dst,op,ty,g⟩:=o
  unfold spc at hs
  split at hs
  ·rename_i p d e1 e2 e3
   simp only at e1 e2 e3
   subst e1 e2 e3
   rw [Bool.and_eq_true,Bool.not_eq_true'] at hs
   have hp:=List.contains_iff_mem.1 hs.2
   have hσ : aK (σ p) = true:=List.all_eq_true.1 h3.2 p hp
   have ht : aK (τ p) = true:=List.all_eq_true.1 hτ p hp
   simp only [evO] at h ⊢
   rw [if_neg (by rw [hs.1]; simp)] at h ⊢
   cases hσp : σ p <;> rw [hσp] at hσ <;> first | cases hσ | skip
   cases hτp : τ p <;> rw [hτp] at ht <;> first | cases ht | skip
   simp only [H3,pc,pv,mvV,mvC,hσp,hτp] at h ⊢
   refine ⟨trivial,upd σ d (.cref p 0),h.2,?_,fun q hq => ?_⟩
   ·funext q
    unfold pt
    by_cases hqd : q = d
    ·subst hqd
     have hwq : W.contains q = true:=by simpa using hw1
     rw [if_pos hwq,upd_same,upd_same]
    ·rw [upd_ne _ _ hqd,upd_ne _ _ hqd]
     rw [if_neg]
     intro hwq
     have:=List.all_eq_true.1 hw2 q (List.contains_iff_mem.1 hwq)
     simp only [beq_iff_eq,Option.some.injEq] at this
     exact hqd this.symm
   ·have hqd : q ≠ d:=fun e => by
     subst e
     simp only [Option.toList_some,List.all_cons,List.all_nil,Bool.and_true] at hw1
     rw [hw1] at hq; cases hq
    rw [upd_ne _ _ hqd]
  ·cases hs
end Go.Proofs.YtkclaipnejgloaaGreatDoor
namespace Go.Proofs.YtkclaipnejgloaaGreatDoor
open Go.RowKit
set_option linter.unusedVariables false
theorem KF {K : PS -> Prop} {o : LO} {d : Nat} {σ : PS} {X : (PS -> Prop) -> Prop} (hX : X K -> ∃ σ1,X (fun s => s = σ1) ∧ K σ1) (h : Ox o d σ K (X K)) : ∃ σ1,Ox o d σ (fun s => s = σ1) (X (fun s => s = σ1)) ∧ K σ1:=by
 unfold Ox at *
 split at h
 ·exact hX h
 ·exact h.elim
 ·rename_i q b _
  by_cases hb : isB b (σ q) = true
  ·obtain ⟨s,h1,h2⟩:=hX (h.2.1 hb)
   exact ⟨s,⟨h.1,fun _ => h1,fun e => by rw [hb] at e; cases e⟩,h2⟩
  ·exact ⟨_,⟨h.1,fun e => absurd e hb,fun _ => rfl⟩,h.2.2 (by simpa using hb)⟩
theorem PG {P : Program} {tb : Tb} {cns : List Nat} {K : PS -> Prop} {o : LO} {σ : PS} (h : evO P tb cns o σ K) : ∃ σ1,evO P tb cns o σ (fun s => s = σ1) ∧ K σ1:=by
 have hp : ∀ {o : LO} {σ : PS},H3 tb o σ K -> ∃ σ1,H3 tb o σ (fun s => s = σ1) ∧ K σ1:=by
  intro o σ h
  unfold H3 at *
  split at h
  ·exact h.elim
  ·split at h
   ·exact ⟨_,⟨h.1,rfl⟩,h.2⟩
   ·exact h.elim
   ·rename_i q b _
    by_cases hb : isB b (σ q) = true
    ·exact ⟨_,⟨h.1,fun e => ⟨(h.2.1 hb).1,rfl⟩,fun e => by rw [hb] at e; cases e⟩,(h.2.1 hb).2⟩
    ·exact ⟨_,⟨h.1,fun e => absurd e hb,fun e => rfl⟩,h.2.2 (by simpa using hb)⟩
 have hcS : ∀ {o : LO} {f : FuncId} {args : List Operand} {σ : PS},Lg P o f args σ K -> ∃ σ1,Lg P o f args σ (fun s => s = σ1) ∧ K σ1:=by
  intro o f args σ h
  unfold Lg at *
  split at h
  ·exact ⟨_,⟨h.1,h.2.choose,h.2.choose_spec.1,rfl⟩,h.2.choose_spec.2⟩
  ·split at h
   ·rename_i b _ _ q d _ _
    by_cases hb : isB b (σ q) = true
    ·exact ⟨_,⟨h.1,fun e => ⟨(h.2.1 hb).1,(h.2.1 hb).2.choose,(h.2.1 hb).2.choose_spec.1,rfl⟩,fun e => by rw [hb] at e; cases e⟩,(h.2.1 hb).2.choose_spec.2⟩
    ·exact ⟨_,⟨h.1,fun e => absurd e hb,fun e => rfl⟩,h.2.2 (by simpa using hb)⟩
   ·exact h.elim
 have ha : ∀ {o : LO} {x : Operand} {d : Nat} {σ : PS},Nc tb o x d σ K -> ∃ σ1,Nc tb o x d σ (fun s => s = σ1) ∧ K σ1:=by
  intro o x d σ h
  unfold Nc at *
  split at h
  ·split at h
   ·exact ⟨_,rfl,h⟩
   ·exact h.elim
  ·exact ⟨_,rfl,h⟩
  ·split at h
   ·exact ⟨_,rfl,h⟩
   ·exact ⟨_,rfl,h⟩
   ·exact ⟨_,rfl,h⟩
   ·exact ⟨_,⟨h.1,rfl⟩,h.2⟩
  ·exact ⟨_,⟨h.1,rfl⟩,h.2⟩
 have hF : ∀ {o : LO} {f : FuncId} {args : List Operand} {σ : PS},JM P cns o f args σ K -> ∃ σ1,JM P cns o f args σ (fun s => s = σ1) ∧ K σ1:=by
  intro o f args σ h
  unfold JM at *
  split at h
  ·rename_i hc
   simp only [if_pos hc]
   obtain ⟨d,hd,cs,q0,q1,q2,q3,q4⟩:=h
   exact ⟨_,⟨d,hd,cs,q0,q1,q2,q3,rfl⟩,q4⟩
  ·rename_i hc
   simp only [if_neg hc]
   rcases h with h | h | h
   ·obtain ⟨s,h1,h2⟩:=hcS h
    exact ⟨s,.inl h1,h2⟩
   ·unfold Pu at *
    split at h
    ·exact h.elim
    ·rename_i x xs
     have key : OB P o f x xs σ K -> ∃ σ1,OB P o f x xs σ (fun s => s = σ1) ∧ K σ1:=fun ⟨s,cs,cs',r,q1,q2,q3,q4,q5,q6⟩ => ⟨_,⟨s,cs,cs',r,q1,q2,q3,q4,q5,rfl⟩,q6⟩
     split at h
     ·obtain ⟨s,h1,h2⟩:=key h.2
      exact ⟨s,.inr (.inl ⟨h.1,h1⟩),h2⟩
     ·obtain ⟨s,h1,h2⟩:=KF (X:=fun K => OB P o f x xs σ K) key h
      exact ⟨s,.inr (.inl h1),h2⟩
   ·have key : ∀ {d},Pv P d f args σ K -> ∃ σ1,Pv P d f args σ (fun s => s = σ1) ∧ K σ1:=fun ⟨s,xs,cs,cs',D,q1,q2,q3,q4,q5,q6,q7,q8,q9⟩ => ⟨_,⟨s,xs,cs,cs',D,q1,q2,q3,q4,q5,q6,q7,q8,rfl⟩,q9⟩
    unfold O8 at *
    split at h
    ·obtain ⟨s,h1,h2⟩:=key h.2
     exact ⟨s,.inr (.inr ⟨h.1,h1⟩),h2⟩
    ·obtain ⟨s,h1,h2⟩:=KF (X:=fun K => Pv P (some _) f args σ K) key h
     exact ⟨s,.inr (.inr h1),h2⟩
 have hu : ∀ {x : Operand} {d : Nat} {σ : PS},T6 x d σ K -> ∃ σ1,T6 x d σ (fun s => s = σ1) ∧ K σ1:=by
  intro x d σ h
  unfold T6 at *
  split at h
  ·split at h
   ·exact ⟨_,⟨h.1,rfl⟩,h.2⟩
   ·exact h.elim
  ·exact h.elim
 unfold evO at *
 split at h
 ·split at h
  ·rename_i hc; simp only [if_pos hc]; obtain ⟨s,h1,h2⟩:=hu h.2; exact ⟨s,⟨h.1,h1⟩,h2⟩
  ·rename_i hc; simp only [if_neg hc]; obtain ⟨s,h1,h2⟩:=ha h.2; exact ⟨s,⟨h.1,h1⟩,h2⟩
 ·split at h
  ·rename_i hc; simp only [if_pos hc]; obtain ⟨s,h1,h2⟩:=ha h.2; exact ⟨s,⟨h.1,h1⟩,h2⟩
  ·rename_i hc; simp only [if_neg hc]; exact hp h
 ·split at h
  ·rename_i hc
   simp only [if_pos hc]
   have h0:=h.1
   have h2:=h.2
   unfold RV at *
   split at h2
   ·split at h2
    ·exact ⟨_,⟨h0,h2.1,rfl⟩,h2.2⟩
    ·exact h2.elim
   ·exact ⟨_,⟨h0,h2.1,rfl⟩,h2.2⟩
   ·obtain ⟨q,g,off,e,n,m,cs,k0,hq,k1,k2,k3,k4⟩:=h2
    exact ⟨_,⟨h0,q,g,off,e,n,m,cs,k0,hq,k1,k2,k3,rfl⟩,k4⟩
   ·exact h2.elim
  ·rename_i hc; simp only [if_neg hc]; exact hp h
 ·have h0:=h.1
  have h2:=h.2
  unfold XN at *
  split at h2
  ·split at h2
   ·exact ⟨_,⟨h0,h2.1,rfl⟩,h2.2⟩
   ·exact h2.elim
  ·exact h2.elim
 ·have h0:=h.1
  have h2:=h.2
  unfold Yw at *
  split at h2
  ·split at h2
   ·exact ⟨_,⟨h0,h2.1,h2.2.1,h2.2.2.1,rfl⟩,h2.2.2.2⟩
   ·exact h2.elim
  ·obtain ⟨g,off,e,n,m,cs,D,vc,q1,q2,q3,q4,q5,q6,q7,q8,q9,q10⟩:=h2
   exact ⟨_,⟨h0,g,off,e,n,m,cs,D,vc,q1,q2,q3,q4,q5,q6,q7,q8,q9,rfl⟩,q10⟩
  ·exact h2.elim
 ·have h0:=h.1
  have h2:=h.2
  unfold Nv at *
  split at h2
  ·exact ⟨_,⟨h0,h2.1,rfl⟩,h2.2⟩
  ·exact h2.elim
 ·exact ⟨_,⟨h.1,h.2.1,h.2.2.1,rfl⟩,h.2.2.2⟩
 ·refine KF (X:=fun K => MM tb _ _ _ σ K) (fun h2 => ?_) h
  unfold MM at *
  split at h2
  ·split at h2
   ·exact ⟨_,rfl,h2⟩
   ·exact h2.elim
  ·exact h2.elim
 ·refine KF (X:=fun K => XH tb _ _ _ _ σ K) (fun h2 => ?_) h
  unfold XH at *
  split at h2
  ·split at h2
   ·exact ⟨_,⟨h2.1,h2.2.1,rfl⟩,h2.2.2⟩
   ·exact h2.elim
  ·exact h2.elim
 ·split at h
  ·rename_i hc
   simp only [if_pos hc]
   have h0:=h.1
   have h2:=h.2
   unfold TP at *
   split at h2
   ·exact ⟨_,⟨h0,h2.1,h2.2.1,h2.2.2.1,h2.2.2.2.1,rfl⟩,h2.2.2.2.2⟩
   ·exact h2.elim
  ·rename_i hc
   simp only [if_neg hc]
   have h0:=h.1
   have h2:=h.2
   unfold TO at *
   split at h2
   ·exact ⟨_,⟨h0,h2.1,h2.2.1,h2.2.2.1,rfl⟩,h2.2.2.2⟩
   ·exact h2.elim
 ·unfold MO at *
  split at h
  ·split at h
   ·exact hF h
   ·exact h.elim
  ·refine KF (X:=fun K => Wi tb _ _ _ _ _ σ K) (fun h2 => ?_) h
   unfold Wi at *
   split at h2
   ·rcases h2.2.2.2.2 with h3 | h3
    ·exact ⟨_,⟨h2.1,h2.2.1,h2.2.2.1,h2.2.2.2.1,.inl rfl⟩,h3⟩
    ·exact ⟨_,⟨h2.1,h2.2.1,h2.2.2.1,h2.2.2.2.1,.inr ⟨rfl,h3.2⟩⟩,h3.1⟩
   ·exact h2.elim
  ·exact hp h
 ·refine KF (X:=fun K => YY P _ _ _ _ σ K) (fun h2 => ?_) h
  unfold YY at *
  split at h2
  ·split at h2
   ·exact ⟨_,rfl,h2⟩
   ·exact h2.elim
  ·exact h2.elim
 ·exact hp h
def evD (P : Program) (tb : Tb) (cns : List Nat) : List (List Nat × List Nat) -> List LO -> PS -> (PS -> Prop) -> Prop
 | _,[],σ,K => bxS cns σ = true ∧ K σ
 | [],_ :: _,_,_ => False
 | (R,W) :: fps,o :: os,σ,K => Wd R W o.op σ = true ∧ adB cns R o σ = true ∧ evO P tb cns o σ (fun σ' => evD P tb cns fps os σ' K)
def okF (cns : List Nat) : List (List Nat × List Nat) -> List LO -> Bool
 | _,[] => true
 | [],_ :: _ => false
 | (R,W) :: fps,o :: os => fpB cns R W o && okF cns fps os
def Ro : List (List Nat) -> List (List Nat) -> List (List Nat)
 | acc,[] => acc
 | acc,e :: es => Ro (acc ++ [(e ++ e.flatMap (fun k => acc.getD k [])).eraseDups]) es
def meets (a b : List Nat) : Bool:=a.any b.contains
def clash (x y : List Nat × List Nat) : Bool:=meets x.2 y.1 || meets x.2 y.2 || meets x.1 y.2
def isX (o : LO) : Bool:=match o.op,o.g,o.dst with
 | .extract (.tmp _) _,none,some _ => true
 | _,_,_ => false
def exF (ops : List LO) (i : Nat) : Bool:=match ops[i]? with
 | some o => isX o
 | none => false
def enf (es : List (List Nat)) (ops : List LO) (i j : Nat) : Bool:=exF ops i && exF ops j && es.getD i [] == es.getD j []
def lkL (ops : List LO) (j : Nat) : List Nat:=match ops[j]? with
 | some o => Pg o.op ++ gT o
 | none => []
def apF (fps : List (List Nat × List Nat)) (ops : List LO) (i j : Nat) : Bool:=match (ops[i]?).bind (·.dst) with
 | some d => !(lkL ops j).contains d && ((ops[j]?).bind (·.dst)) != some d && (match (ops[j]?).bind (·.dst) with
  | some e => !(lkL ops i).contains e
  | none => true)
 | none => false
def okD (fps : List (List Nat × List Nat)) (es : List (List Nat)) (ops : List LO) : Bool :=
 (fps.length == es.length && (List.range es.length).all fun j => (es.getD j []).all (fun k => decide (k < j)) && (List.range j).all fun i => !clash (fps.getD i ([],[])) (fps.getD j ([],[])) || ((Ro [] es).getD j []).contains i || enf es ops i j) &&
 (List.range es.length).all fun i => !exF ops i || (List.range es.length).all fun j => j == i || (es.getD j []).contains i || ((Ro [] es).getD i []).contains j || apF fps ops i j
theorem Rp {X : Nat -> Prop} {es0 : List (List Nat)} (hX : ∀ k,X k -> ∀ m ∈ es0.getD k [],X m) : ∀ (es acc pre : List (List Nat)),es0 = pre ++ es -> pre.length = acc.length ->
  (∀ j,(∀ k ∈ es0.getD j [],X k) -> ∀ i ∈ acc.getD j [],X i) -> ∀ j,(∀ k ∈ es0.getD j [],X k) -> ∀ i ∈ (Ro acc es).getD j [],X i
 | [],acc,pre,_,_,h => h
 | e :: es,acc,pre,he,hl,h => by
  unfold Ro
  refine Rp hX es _ (pre ++ [e]) (by rw [he]; simp) (by simp [hl]) ?_
  intro j hj i hi
  rcases Nat.lt_trichotomy j acc.length with hlt | heq | hgt
  ·refine h j hj i ?_
   simpa [List.getElem?_append_left hlt] using hi
  ·subst heq
   have hej : es0.getD acc.length [] = e:=by rw [he]; simp [<- hl]
   rw [hej] at hj
   have hi' : i ∈ (e ++ e.flatMap (fun k => acc.getD k [])).eraseDups:=by simpa using hi
   rw [List.mem_eraseDups,List.mem_append,List.mem_flatMap] at hi'
   rcases hi' with hi' | ⟨k,hk,hi'⟩
   ·exact hj i hi'
   ·exact h k (hX k (hj k hk)) i hi'
  ·exfalso
   have : (acc ++ [(e ++ e.flatMap (fun k => acc.getD k [])).eraseDups])[j]? = none:=List.getElem?_eq_none (by simp; omega)
   rw [List.getD_eq_getElem?_getD,this] at hi
   simp at hi
theorem Lh {α : Type} {p q : α -> Bool} (h : ∀ x,p x = true -> q x = true) : ∀ {l : List α} {x : α},x ∈ l -> q x = true -> p x = false -> l.countP p < l.countP q
 | [],_,hx,_,_ => by simp at hx
 | y :: l,x,hx,h1,h2 => by
  have hle : l.countP p <= l.countP q:=List.countP_mono_left (fun x _ => h x)
  rw [List.countP_cons,List.countP_cons]
  rcases List.mem_cons.1 hx with rfl | hx
  ·rw [h1,h2]; simp; omega
  ·have:=Lh h hx h1 h2
   have h3 : (if p y = true then 1 else 0) <= (if q y = true then 1 else 0):=by
    split
    ·rename_i hp; rw [if_pos (h y hp)]; exact Nat.le_refl 1
    ·exact Nat.zero_le _
   omega
def mix (s : Nat -> PS) (W : Nat -> List Nat) (X : Nat -> Bool) : Nat -> PS
 | 0 => s 0
 | m + 1 => if X m = true then pt (W m) (s (m + 1)) (mix s W X m) else mix s W X m
section
variable {s : Nat -> PS} {R W : Nat -> List Nat} {X : Nat -> Bool} {n i : Nat}
theorem PZ {q : Nat} : ∀ {m k : Nat},m <= k -> (∀ j,m <= j -> j < k -> X j = true -> (W j).contains q = false) -> mix s W X k q = mix s W X m q:=by
 intro m k hmk h
 induction k with
 | zero =>
  have : m = 0:=by omega
  subst this; rfl
 | succ k ih =>
  rcases Nat.lt_or_ge k m with hlt | hge
  ·have : m = k + 1:=by omega
   subst this; rfl
  ·rw [<- ih hge (fun j h1 h2 => h j h1 (by omega))]
   simp only [mix]
   split
   ·rename_i hx
    have:=h k hge (by omega) hx
    simp only [pt]
    rw [if_neg (by rw [this]; exact Bool.false_ne_true)]
   ·rfl
theorem Yb {q : Nat} (hloc : ∀ m,m < n -> ∀ q,(W m).contains q = false -> s (m + 1) q = s m q) : ∀ {m : Nat},m <= n -> (∀ j,j < m -> (W j).contains q = true -> X j = true) -> mix s W X m q = s m q:=by
 intro m hm h
 induction m with
 | zero => rfl
 | succ m ih =>
  have ih:=ih (by omega) (fun j hj => h j (by omega))
  simp only [mix]
  by_cases hw : (W m).contains q = true
  ·rw [if_pos (h m (by omega) hw)]
   simp only [pt]
   rw [if_pos hw]
  ·have hw' : (W m).contains q = false:=by simpa using hw
   split
   ·simp only [pt]; rw [if_neg hw,ih,hloc m (by omega) q hw']
   ·rw [ih,hloc m (by omega) q hw']
theorem Zv (hi : i < n) (hlater : ∀ j q,i < j -> j < n -> (W i).contains q = true -> (W j).contains q = true -> X j = false) (X' : Nat -> Bool) (hX' : ∀ j,X' j = (X j || j == i)) :
  mix s W X' n = pt (W i) (s (i + 1)) (mix s W X n):=by
 funext q
 have hne : ∀ j,j ≠ i -> X' j = X j:=fun j hj => by rw [hX']; simp [hj]
 have hii : X' i = true:=by rw [hX']; simp
 have hpre : ∀ m,m <= i -> mix s W X' m = mix s W X m:=by
  intro m
  induction m with
  | zero => intro _; rfl
  | succ m ih => intro hm; simp only [mix]; rw [hne m (by omega),ih (by omega)]
 simp only [pt]
 by_cases hw : (W i).contains q = true
 ·rw [if_pos hw,PZ (m:=i + 1) (by omega) (fun j h1 h2 hx => ?_)]
  ·simp only [mix,if_pos hii,pt,if_pos hw]
  ·cases hwj : (W j).contains q
   ·rfl
   ·rw [hne j (by omega),hlater j q (by omega) h2 hw hwj] at hx; cases hx
 ·rw [if_neg hw]
  have : ∀ m,m <= n -> mix s W X' m q = mix s W X m q:=by
   intro m
   induction m with
   | zero => intro _; rfl
   | succ m ih =>
    intro hm
    have ih:=ih (by omega)
    simp only [mix]
    by_cases hmi : m = i
    ·subst hmi
     rw [if_pos hii]
     simp only [pt]
     rw [if_neg hw,ih]
     split
     ·simp only [pt]; rw [if_neg hw]
     ·rfl
    ·rw [hne m hmi]
     split
     ·simp only [pt]; split
      ·rfl
      ·exact ih
     ·exact ih
  exact this n (Nat.le_refl _)
end
section
variable {P : Program} {tb : Tb} {nt : Nat} {bx cns : List Nat} {σ : PS} {K : PS -> Prop}
theorem Ur : ∀ {fps : List (List Nat × List Nat)} {os : List LO} {σ : PS},okF cns fps os = true -> evD P tb cns fps os σ K ->
  ∃ s : Nat -> PS,s 0 = σ ∧ K (s os.length) ∧ (∀ i,i <= os.length -> bxS cns (s i) = true) ∧ ∀ i o,os[i]? = some o -> fpS cns (fps.getD i ([],[])).1 (fps.getD i ([],[])).2 o (s i) ∧ evO P tb cns o (s i) (fun σ' => σ' = s (i + 1))
 | fps,[],σ,_,h => by
  have h : bxS cns σ = true ∧ K σ:=by cases fps <;> exact h
  exact ⟨fun _ => σ,rfl,h.2,fun _ _ => h.1,fun i o hi => by simp at hi⟩
 | [],_ :: _,_,_,h => h.elim
 | (R,W) :: fps,o :: os,σ,hk,h => by
  simp only [okF,Bool.and_eq_true] at hk
  obtain ⟨hf,hf',h⟩:=h
  have hbx : bxS cns σ = true:=by unfold adB at hf'; rw [Bool.and_eq_true] at hf'; exact hf'.2
  replace hf : fpS cns R W o σ:=⟨hk.1,hf,hf'⟩
  obtain ⟨σ1,h1,h2⟩:=PG h
  obtain ⟨s,s0,sk,sb,hs⟩:=Ur hk.2 h2
  refine ⟨fun i => match i with | 0 => σ | i + 1 => s i,rfl,by simpa using sk,fun i hi => ?_,fun i o' hi => ?_⟩
  ·cases i with
   | zero => exact hbx
   | succ i => exact sb i (by simpa using hi)
  cases i with
  | zero =>
   simp only [List.getElem?_cons_zero,Option.some.injEq] at hi
   subst hi
   refine ⟨by simpa using hf,?_⟩
   show evO P tb cns o σ (fun σ' => σ' = s 0)
   rw [s0]; exact h1
  | succ i => simpa using hs i o' (by simpa using hi)
theorem U9 {s : Nat -> PS} {W : Nat -> List Nat} {X : Nat -> Bool} : ∀ {n : Nat},(∀ m,m <= n -> bxS cns (s m) = true) -> bxS cns (mix s W X n) = true:=by
 intro n h
 refine List.all_eq_true.2 fun q hq => ?_
 induction n with
 | zero => exact List.all_eq_true.1 (h 0 (Nat.le_refl _)) q hq
 | succ n ih =>
  have ih:=ih (fun m hm => h m (by omega))
  simp only [mix]
  split
  ·unfold pt
   split
   ·exact List.all_eq_true.1 (h (n + 1) (Nat.le_refl _)) q hq
   ·exact ih
  ·exact ih
theorem VH {base : Bs} {St0 : Nat -> Nat -> Prop} {w0 w : World} {a : Act} {k : Nat} (hr : Rel P nt bx base St0 w0 σ a w) : Rel P nt bx base St0 w0 σ a { w with drawn:=k }:=by
 obtain ⟨St,B,h,hb,hst,hz⟩:=hr
 exact ⟨St,B,h.world (fun _ _ h => h) (fun _ _ _ => rfl) (Nat.le_refl _) (fun _ _ _ => ⟨rfl,fun _ => Iff.rfl⟩) h.st,⟨hb.os,hb.tape,hb.output,hb.size,hb.block⟩,hst,hz⟩
theorem NF {ops : Array Oper} {j : Nat} {o : Oper} (ho : ops[j]? = some o) : (ops.toList.map edg).getD j [] = edg o:=by
 rw [List.getD_eq_getElem?_getD,List.getElem?_map,Array.getElem?_toList,ho]; rfl
theorem PY {a b : List Nat} {q : Nat} (h1 : a.contains q = true) (h2 : b.contains q = true) : meets a b = true:=by
 unfold meets
 rw [List.any_eq_true]
 exact ⟨q,by simpa using h1,h2⟩
theorem SE {l : Array Bool} {i j : Nat} (hi : i < l.size) : (l.setIfInBounds i true).getD j false = (l.getD j false || j == i):=by
 by_cases h : i = j
 ·subst h; simp [hi]
 ·rw [getD_set_ne false h]
  have : (j == i) = false:=by simp; omega
  rw [this,Bool.or_false]
theorem SA {K' : PS -> Prop} (hk : ∀ σ,K σ -> K' σ) : ∀ {fps : List (List Nat × List Nat)} {os : List LO} {σ : PS},evD P tb cns fps os σ K -> evD P tb cns fps os σ K'
 | fps,[],σ,h => by
  have h : bxS cns σ = true ∧ K σ:=by cases fps <;> exact h
  cases fps <;> exact ⟨h.1,hk _ h.2⟩
 | [],_ :: _,_,h => h.elim
 | (R,W) :: fps,o :: os,σ,⟨h1,h2,h3⟩ => ⟨h1,h2,WC (fun σ' h => SA hk h) h3⟩
theorem Ye : ∀ {fps : List (List Nat × List Nat)} {os : List LO} {i : Nat} {o : LO},okF cns fps os = true -> os[i]? = some o -> fpB cns (fps.getD i ([],[])).1 (fps.getD i ([],[])).2 o = true
 | _,[],i,_,_,h => by simp at h
 | [],_ :: _,_,_,h,_ => by cases h
 | (R,W) :: fps,o :: os,i,o',h,hi => by
  simp only [okF,Bool.and_eq_true] at h
  cases i with
  | zero => simp only [List.getElem?_cons_zero,Option.some.injEq] at hi; subst hi; exact h.1
  | succ i =>
   have:=Ye (fps:=fps) (os:=os) (i:=i) (o:=o') h.2 (by simpa using hi)
   simpa using this
theorem SY : ∀ {fps : List (List Nat × List Nat)} {os : List LO} (p : Nat),okF cns fps os = true -> okF cns (fps.take p) (os.take p) = true
 | _,[],p,_ => by rw [List.take_nil]; cases (List.take p _) <;> rfl
 | [],_ :: _,_,h => by cases h
 | (R,W) :: fps,o :: os,0,_ => rfl
 | (R,W) :: fps,o :: os,p + 1,h => by
  simp only [okF,Bool.and_eq_true] at h
  rw [List.take_succ_cons,List.take_succ_cons,okF,h.1,SY p h.2]; rfl
theorem Us : ∀ {os : List LO} {σ : PS},evS P tb cns os σ K -> ∃ s : Nat -> PS,s 0 = σ ∧ K (s os.length) ∧ ∀ i o,os[i]? = some o -> evO P tb cns o (s i) (fun σ' => σ' = s (i + 1))
 | [],σ,h => ⟨fun _ => σ,rfl,h,fun i o hi => by simp at hi⟩
 | o :: os,σ,h => by
  obtain ⟨σ1,h1,h2⟩:=PG (show evO P tb cns o σ (fun σ' => evS P tb cns os σ' K) from h)
  obtain ⟨s,s0,sk,hs⟩:=Us h2
  refine ⟨fun i => match i with | 0 => σ | i + 1 => s i,rfl,by simpa using sk,fun i o' hi => ?_⟩
  cases i with
  | zero =>
   simp only [List.getElem?_cons_zero,Option.some.injEq] at hi
   subst hi
   show evO P tb cns o σ (fun σ' => σ' = s 0)
   rw [s0]; exact h1
  | succ i => simpa using hs i o' (by simpa using hi)
theorem Xr (htb : KD P tb) {ops : Array Oper} {s : Nat -> PS} {p : Nat} (hok : ops.toList.all (QK nt bx) = true) (hA : (ops.toList.map (Bd ops)).all (okA bx cns) = true) (hL : ∀ j,j < ops.size -> ∀ k ∈ (ops.toList.map edg).getD j [],k < j)
  (hT : ∀ j,p <= j -> j < ops.size -> ∀ i,p <= i -> i < j -> ((Ro [] (ops.toList.map edg)).getD j []).contains i = true) (hs : ∀ i o,p <= i -> (ops.toList.map (Bd ops))[i]? = some o -> evO P tb cns o (s i) (fun σ' => σ' = s (i + 1)))
  {base : Bs} {St0 : Nat -> Nat -> Prop} {w0 : World} {Q : Exit -> Act -> World -> Prop} (hQ : ∀ a w,Rel P nt bx base St0 w0 (s ops.size) a w -> Q .normal a w) :
  ∀ (fuel i : Nat) (listed : Array Bool) (a : Act) (w : World),p <= i -> i <= ops.size -> listed.size = ops.size -> (∀ j,j < ops.size -> listed.getD j false = decide (j < i)) -> ((List.range ops.size).countP (fun i => !listed.getD i false)) <= fuel -> Rel P nt bx base St0 w0 (s i) a w -> wpAny P .any ops Q fuel listed a w:=by
 have htf : ∀ {listed : Array Bool} {j : Nat},listed.size = ops.size -> j < ops.size -> listed.getD j true = listed.getD j false:=by
  intro listed j hsz hj
  simp only [Array.getD_eq_getD_getElem?]
  rw [Array.getElem?_eq_getElem (by omega)]; rfl
 have hone : ∀ {listed : Array Bool} {i k : Nat},p <= i -> listed.size = ops.size -> (∀ j,j < ops.size -> listed.getD j false = decide (j < i)) -> k ∈ Region.ready .any ops listed -> k = i ∧ i < ops.size:=by
  intro listed i k hpi hsz hpat hk
  rw [mem_ready] at hk
  obtain ⟨h0,o,ho,hedge⟩:=hk
  have hlt : k < ops.size:=(Array.getElem?_eq_some_iff.1 ho).1
  rw [htf hsz hlt,hpat k hlt] at h0
  have hki : i <= k:=by have:=of_decide_eq_false h0; omega
  rcases Nat.lt_or_ge i k with hik | hik
  ·exfalso
   have hes : ∀ m ∈ (ops.toList.map edg).getD k [],m < i:=fun m hm => by
    have hmk:=hL k hlt m hm
    rw [NF ho] at hm
    obtain ⟨e,he,rfl⟩:=List.mem_map.1 hm
    rw [List.mem_filter] at he
    have:=hedge e (by simpa using he.1) he.2
    rw [hpat _ (by omega)] at this
    exact of_decide_eq_true this
   have:=Rp (X:=fun m => m < i) (es0:=ops.toList.map edg) (fun m hm e he => Nat.lt_trans (hL m (by omega) e he) hm) _ [] [] rfl rfl (fun j _ m hm => by simp at hm) k hes i (by simpa using hT k (by omega) hlt i hpi hik)
   omega
  ·exact ⟨by omega,by omega⟩
 intro fuel
 induction fuel with
 | zero =>
  intro i listed a w hpi hi hsz hpat hcnt hr
  have hn : i = ops.size:=by
   rcases Nat.lt_or_ge i ops.size with h | h
   ·have h0:=List.countP_eq_zero.1 (Nat.le_zero.1 hcnt) i (List.mem_range.2 h)
    rw [hpat i h] at h0
    simp at h0
   ·omega
  subst hn
  refine ⟨?_,hQ a w hr⟩
  rw [List.eq_nil_iff_forall_not_mem]
  intro k hk
  have:=(hone hpi hsz hpat hk).2
  omega
 | succ fuel ih =>
  intro i listed a w hpi hi hsz hpat hcnt hr
  have hin : i < ops.size -> i ∈ Region.ready .any ops listed:=fun hlt => by
   rw [mem_ready]
   refine ⟨by rw [htf hsz hlt,hpat i hlt]; simp,ops[i],by simp [hlt],fun e he hb => ?_⟩
   have hm : e.on ∈ (ops.toList.map edg).getD i []:=by
    rw [NF (o:=ops[i]) (by simp [hlt])]
    exact List.mem_map_of_mem (List.mem_filter.2 ⟨by simpa using he,hb⟩)
   have:=hL i hlt _ hm
   rw [hpat _ (by omega)]
   exact decide_eq_true this
  refine ⟨fun h0 => ?_,fun k hk => ?_⟩
  ·have hn : i = ops.size:=by
    rcases Nat.lt_or_ge i ops.size with h | h
    ·have:=hin h; rw [h0] at this; simp at this
    ·omega
   rw [hn] at hr
   exact hQ a w hr
  ·obtain ⟨rfl,hlt⟩:=hone hpi hsz hpat hk
   have h1 : ops[k]? = some ops[k]:=by simp [hlt]
   have h2 : (ops.toList.map (Bd ops))[k]? = some (Bd ops ops[k]):=by simp [hlt]
   have h3 : QK nt bx ops[k] = true:=by rw [List.all_eq_true] at hok; exact hok _ (by simp)
   have hAo : okA bx cns (Bd ops ops[k]) = true:=List.all_eq_true.1 hA _ (List.mem_of_getElem? h2)
   have hst:=NL (nt:=nt) (bx:=bx) htb h3 hAo (hs k _ hpi h2) base St0 w0 a w Q hr
   have hX' : ∀ j,(listed.setIfInBounds k true).getD j false = (listed.getD j false || j == k):=fun j => SE (by omega)
   have hnext : ∀ a' w',(∃ σ',σ' = s (k + 1) ∧ Rel P nt bx base St0 w0 σ' a' w') -> wpAny P .any ops Q fuel (listed.setIfInBounds k true) a' w':=by
    rintro a' w' ⟨σ',rfl,hr'⟩
    refine ih (k + 1) _ a' w' (by omega) hlt (by simp [hsz]) (fun j hj => ?_) ?_ hr'
    ·rw [hX',hpat j hj,Bool.eq_iff_iff]
     simp only [Bool.or_eq_true,decide_eq_true_eq,beq_iff_eq]
     omega
    ·have : (List.range ops.size).countP (fun j => !(listed.setIfInBounds k true).getD j false) < (List.range ops.size).countP (fun j => !listed.getD j false):=by
      refine Lh (fun j hj => ?_) (x:=k) (List.mem_range.2 hlt) (by rw [hpat k hlt]; simp) (by rw [hX']; simp)
      rw [hX'] at hj
      revert hj
      cases listed.getD j false <;> simp
     omega
   unfold wpOp
   rw [h1]
   simp only
   split
   ·rename_i hw; rw [if_pos hw] at hst; exact .inl (Oper.wp_mono hnext hst)
   ·rename_i hw; rw [if_neg hw] at hst; exact hnext _ _ hst
theorem YT (htb : KD P tb) {ops : Array Oper} {fps : List (List Nat × List Nat)} {s : Nat -> PS} {p : Nat} (hp : p <= ops.size) (hok : ops.toList.all (QK nt bx) = true) (hA : (ops.toList.map (Bd ops)).all (okA bx cns) = true) (hD : okD fps (ops.toList.map edg) (ops.toList.map (Bd ops)) = true)
  (hF : okF cns fps (ops.toList.map (Bd ops)) = true) (hT : ∀ j,p <= j -> j < ops.size -> exF (ops.toList.map (Bd ops)) j = false ∧ ∀ i,i < j -> ((Ro [] (ops.toList.map edg)).getD j []).contains i = true ∨ (i < p ∧ exF (ops.toList.map (Bd ops)) i = true ∧ ∀ k ∈ (ops.toList.map edg).getD i [],((Ro [] (ops.toList.map edg)).getD j []).contains k = true))
  (hBx : ∀ i,i <= p -> bxS cns (s i) = true)
  (hs : ∀ i o,i < p -> (ops.toList.map (Bd ops))[i]? = some o -> fpS cns (fps.getD i ([],[])).1 (fps.getD i ([],[])).2 o (s i) ∧ evO P tb cns o (s i) (fun σ' => σ' = s (i + 1)))
  {base : Bs} {St0 : Nat -> Nat -> Prop} {w0 : World} {Q : Exit -> Act -> World -> Prop} (hQ : ∀ (fuel : Nat) (listed : Array Bool) (a : Act) (w : World),listed.size = ops.size -> (∀ j,j < ops.size -> listed.getD j false = decide (j < p)) -> ((List.range ops.size).countP (fun i => !listed.getD i false)) <= fuel -> Rel P nt bx base St0 w0 (s p) a w -> wpAny P .any ops Q fuel listed a w) (hP : ∀ c a w,¬ Q (.panic c) a w) :
  ∀ (fuel : Nat) (listed : Array Bool) (a : Act) (w : World),listed.size = ops.size -> ((List.range ops.size).countP (fun i => !listed.getD i false)) <= fuel ->
   (∀ k,listed.getD k false = true -> ∀ m ∈ (ops.toList.map edg).getD k [],listed.getD m false = true) ->
   (∀ i k,i < k -> k < ops.size -> enf (ops.toList.map edg) (ops.toList.map (Bd ops)) i k = true -> listed.getD k false = true -> listed.getD i false = true) ->
   (∀ j,p <= j -> listed.getD j false = false) -> Rel P nt bx base St0 w0 (mix s (fun i => (fps.getD i ([],[])).2) (fun i => listed.getD i false) p) a w -> wpAny P .any ops Q fuel listed a w:=by
 have hD':=hD
 simp only [okD,Bool.and_eq_true,List.all_eq_true,List.mem_range,List.length_map,Array.length_toList,decide_eq_true_eq,Bool.or_eq_true,Bool.not_eq_true'] at hD'
 obtain ⟨⟨hlen,hD'⟩,hX'⟩:=hD'
 have hless : ∀ j,j < ops.size -> ∀ k ∈ (ops.toList.map edg).getD j [],k < j:=fun j hj => (hD' j hj).1
 have hcl : ∀ i j,i < j -> j < ops.size -> clash (fps.getD i ([],[])) (fps.getD j ([],[])) = true -> ((Ro [] (ops.toList.map edg)).getD j []).contains i = true ∨ enf (ops.toList.map edg) (ops.toList.map (Bd ops)) i j = true:=by
  intro i j hij hj hc
  rcases (hD' j hj).2 i hij with (h | h) | h
  ·rw [h] at hc; cases hc
  ·exact .inl h
  ·exact .inr h
 have hop : ∀ i,i < ops.size -> ∃ o,ops[i]? = some o ∧ (ops.toList.map (Bd ops))[i]? = some (Bd ops o) ∧ QK nt bx o = true:=by
  intro i hi
  refine ⟨ops[i],by simp [hi],by simp [hi],?_⟩
  rw [List.all_eq_true] at hok
  exact hok _ (by simp)
 have hloc : ∀ m,m < p -> ∀ q,((fps.getD m ([],[])).2).contains q = false -> s (m + 1) q = s m q:=by
  intro m hm q hq
  obtain ⟨o,h1,h2,h3⟩:=hop m (by omega)
  obtain ⟨hf,he⟩:=hs m _ hm h2
  obtain ⟨σ1,-,σ',rfl,-,hl⟩:=PG (RK (τ:=s m) (fun _ _ => rfl) (hBx m (by omega)) hf he)
  exact hl q hq
 have htf : ∀ {listed : Array Bool} {j : Nat},listed.size = ops.size -> j < ops.size -> listed.getD j true = listed.getD j false:=by
  intro listed j hsz hj
  simp only [Array.getD_eq_getD_getElem?]
  rw [Array.getElem?_eq_getElem (by omega)]; rfl
 have hall : ∀ listed : Array Bool,listed.size = ops.size -> Region.ready .any ops listed = [] -> ∀ j,j < ops.size -> listed.getD j false = true:=by
  intro listed hsz hr j
  induction j using Nat.strongRecOn with
  | _ j ihj =>
   intro hj
   cases hx : listed.getD j false
   ·exfalso
    obtain ⟨o,h1,h2,h3⟩:=hop j hj
    have : j ∈ Region.ready .any ops listed:=by
     rw [mem_ready]
     refine ⟨by rw [htf hsz hj]; exact hx,o,h1,fun e he hb => ?_⟩
     have hm : e.on ∈ (ops.toList.map edg).getD j []:=by
      rw [NF h1]
      exact List.mem_map_of_mem (List.mem_filter.2 ⟨by simpa using he,hb⟩)
     have:=hless j hj _ hm
     exact ihj _ this (by omega)
    rw [hr] at this
    simp at this
   ·rfl
 have hend : ∀ listed : Array Bool,(∀ j,j < p -> listed.getD j false = true) -> mix s (fun i => (fps.getD i ([],[])).2) (fun i => listed.getD i false) p = s p:=fun listed h => by
  funext q
  exact Yb (n:=p) hloc (Nat.le_refl _) (fun j hj _ => h j hj)
 have hsel : ∀ (j : Nat) (o : Oper) cs b,ops[j]? = some o -> o.op ≠ .select cs b:=by
  intro j o cs b ho he
  have hB:=Ye hF (i:=j) (o:=Bd ops o) (by simp [ho])
  have e1 : (Bd ops o).op = .select cs b:=he
  simp [fpB,RO,fpX,spc,e1] at hB
 intro fuel
 induction fuel with
 | zero =>
  intro listed a w hsz hcnt hclo hcl2 hz hr
  have hl : ∀ j,j < ops.size -> listed.getD j false = true:=by
   intro j hj
   have h0:=List.countP_eq_zero.1 (Nat.le_zero.1 hcnt) j (List.mem_range.2 hj)
   simpa using h0
  rw [hend listed (fun j hj => hl j (by omega))] at hr
  refine hQ 0 listed a w hsz (fun j hj => ?_) hcnt hr
  rw [hl j hj]
  rcases Nat.lt_or_ge j p with h | h
  ·exact (decide_eq_true h).symm
  ·have:=hz j h; rw [hl j hj] at this; cases this
 | succ fuel ih =>
  intro listed a w hsz hcnt hclo hcl2 hz hr
  by_cases hful : ∀ j,j < p -> listed.getD j false = true
  ·rw [hend listed hful] at hr
   refine hQ (fuel + 1) listed a w hsz (fun j hj => ?_) hcnt hr
   rcases Nat.lt_or_ge j p with h | h
   ·rw [hful j h]; exact (decide_eq_true h).symm
   ·rw [hz j h]; exact (decide_eq_false (by omega)).symm
  have hanc : ∀ j,(∀ k ∈ (ops.toList.map edg).getD j [],listed.getD k false = true) -> ∀ m ∈ (Ro [] (ops.toList.map edg)).getD j [],listed.getD m false = true :=
   Rp (X:=fun k => listed.getD k false = true) hclo _ [] [] rfl rfl (fun j _ m hm => by simp at hm)
  have hrdy : ∀ i,i ∈ Region.ready .any ops listed -> (exF (ops.toList.map (Bd ops)) i = true ∨ ∀ k,exF (ops.toList.map (Bd ops)) k = true -> k ∉ Region.ready .any ops listed) -> i < p ∧ listed.getD i false = false ∧ ∀ k ∈ (ops.toList.map edg).getD i [],listed.getD k false = true:=by
   intro i hi hpr
   rw [mem_ready] at hi
   obtain ⟨h0,o,ho,hedge⟩:=hi
   have hlt : i < ops.size:=(Array.getElem?_eq_some_iff.1 ho).1
   rw [htf hsz hlt] at h0
   have hes : ∀ k ∈ (ops.toList.map edg).getD i [],listed.getD k false = true:=fun k hk => by
    rw [NF ho] at hk
    obtain ⟨e,he,rfl⟩:=List.mem_map.1 hk
    rw [List.mem_filter] at he
    exact hedge e (by simpa using he.1) he.2
   refine ⟨?_,h0,hes⟩
   rcases Nat.lt_or_ge i p with h | h
   ·exact h
   ·exfalso
    obtain ⟨t1,t2⟩:=hT i h hlt
    rcases hpr with hpr | hpr
    ·rw [t1] at hpr; cases hpr
    ·refine hful fun j hj => ?_
     rcases t2 j (by omega) with t3 | ⟨_,t3,t4⟩
     ·exact hanc i hes j (by simpa using t3)
     ·cases hx : listed.getD j false
      ·exfalso
       obtain ⟨oj,hoj,_⟩:=hop j (by omega)
       refine hpr j t3 ?_
       rw [mem_ready]
       refine ⟨by rw [htf hsz (by omega)]; exact hx,oj,hoj,fun e he hb => ?_⟩
       have hm : e.on ∈ (ops.toList.map edg).getD j []:=by
        rw [NF hoj]
        exact List.mem_map_of_mem (List.mem_filter.2 ⟨by simpa using he,hb⟩)
       exact hanc i hes _ (by simpa using t4 _ hm)
      ·rfl
  have step : ∀ i,i ∈ Region.ready .any ops listed -> (exF (ops.toList.map (Bd ops)) i = true ∨ ∀ k,exF (ops.toList.map (Bd ops)) k = true -> k ∉ Region.ready .any ops listed) -> (∀ m,m < i -> enf (ops.toList.map edg) (ops.toList.map (Bd ops)) m i = true -> listed.getD m false = true) -> ∀ o,ops[i]? = some o ->
    EK (fps.getD i ([],[])).1 (s i) (mix s (fun i => (fps.getD i ([],[])).2) (fun i => listed.getD i false) p) ∧
    (if Region.wanted o (yielded ops a.tmps) then o.wp P a w (wpAny P .any ops Q fuel (listed.setIfInBounds i true)) Q else wpAny P .any ops Q fuel (listed.setIfInBounds i true) (a.put o.dst undef) w):=by
   intro i hi hpr henf o ho
   obtain ⟨hlt,h0,hes⟩:=hrdy i hi hpr
   obtain ⟨o',h1,h2,h3⟩:=hop i (by omega)
   rw [ho] at h1
   simp only [Option.some.injEq] at h1
   subst h1
   obtain ⟨hf,he⟩:=hs i _ hlt h2
   have hbef : ∀ m,m < i -> clash (fps.getD m ([],[])) (fps.getD i ([],[])) = true -> listed.getD m false = true:=fun m hm hc => by
    rcases hcl m i hm (by omega) hc with h | h
    ·exact hanc i hes m (by simpa using h)
    ·exact henf m hm h
   have haft : ∀ m,i < m -> m < ops.size -> clash (fps.getD i ([],[])) (fps.getD m ([],[])) = true -> listed.getD m false = false:=by
    intro m hm hmn hc
    cases hx : listed.getD m false
    ·rfl
    ·rcases hcl i m hm hmn hc with h | h
     ·have:=hanc m (hclo m hx) i (by simpa using h)
      rw [h0] at this; cases this
     ·have:=hcl2 i m hm hmn h hx
      rw [h0] at this; cases this
   have hag : EK (fps.getD i ([],[])).1 (s i) (mix s (fun i => (fps.getD i ([],[])).2) (fun i => listed.getD i false) p):=by
    intro q hq
    rw [PZ (m:=i) (by omega) (fun j h1 h2 hx => ?_)]
    ·exact Yb (n:=p) hloc (by omega) (fun j hj hw => hbef j hj (by simp only [clash,PY hw hq,Bool.true_or]))
    ·rcases Nat.lt_or_ge i j with hij | hij
     ·cases hw : ((fps.getD j ([],[])).2).contains q
      ·rfl
      ·rw [haft j hij (by omega) (by simp only [clash,PY hq hw,Bool.or_true])] at hx; cases hx
     ·have : j = i:=by omega
      subst this
      rw [h0] at hx; cases hx
   refine ⟨hag,?_⟩
   have hAo : okA bx cns (Bd ops o) = true:=List.all_eq_true.1 hA _ (List.mem_of_getElem? h2)
   have hst:=NL (nt:=nt) (bx:=bx) htb h3 hAo (RK hag (U9 hBx) hf he) base St0 w0 a w Q hr
   have hnext : ∀ a' w',(∃ σ',Loc (fps.getD i ([],[])).2 (s i) (mix s (fun i => (fps.getD i ([],[])).2) (fun i => listed.getD i false) p) (fun σ' => σ' = s (i + 1)) σ' ∧ Rel P nt bx base St0 w0 σ' a' w') ->
     wpAny P .any ops Q fuel (listed.setIfInBounds i true) a' w':=by
    rintro a' w' ⟨σ',⟨σ1,rfl,rfl,-⟩,hr'⟩
    have hX' : ∀ j,(listed.setIfInBounds i true).getD j false = (listed.getD j false || j == i):=fun j => SE (by omega)
    refine ih _ a' w' (by simp [hsz]) ?_ ?_ ?_ ?_ ?_
    ·have : (List.range ops.size).countP (fun j => !(listed.setIfInBounds i true).getD j false) < (List.range ops.size).countP (fun j => !listed.getD j false):=by
      refine Lh (fun j hj => ?_) (x:=i) (List.mem_range.2 (by omega)) (by simp only [h0]; rfl) (by rw [hX']; simp)
      rw [hX'] at hj
      revert hj
      cases listed.getD j false <;> simp
     omega
    ·intro k hk m hm
     rw [hX'] at hk
     rw [hX']
     rw [Bool.or_eq_true] at hk
     rcases hk with hk | hk
     ·rw [hclo k hk m hm]; rfl
     ·have : k = i:=by simpa using hk
      subst this
      rw [hes m hm]; rfl
    ·intro m k hmk hk hen hx
     rw [hX'] at hx ⊢
     rw [Bool.or_eq_true] at hx
     rcases hx with hx | hx
     ·rw [hcl2 m k hmk hk hen hx]; rfl
     ·have : k = i:=by simpa using hx
      subst this
      rw [henf m hmk hen]; rfl
    ·intro j hj
     rw [hX',hz j hj]
     have : (j == i) = false:=by simp; omega
     rw [this]; rfl
    ·rw [Zv (X:=fun j => listed.getD j false) hlt (fun j q h1 h2 hw hwj => haft j h1 (by omega) (by simp only [clash,PY hw hwj,Bool.or_true,Bool.true_or])) _ hX']
     exact hr'
   split
   ·rename_i hw
    rw [if_pos hw] at hst
    exact Oper.wp_mono hnext hst
   ·rename_i hw
    rw [if_neg hw] at hst
    exact hnext _ _ hst
  by_cases hex : ∃ i,exF (ops.toList.map (Bd ops)) i = true ∧ i ∈ Region.ready .any ops listed
  ·
   obtain ⟨i,⟨hxi,hi⟩,hleast⟩ : ∃ i,(exF (ops.toList.map (Bd ops)) i = true ∧ i ∈ Region.ready .any ops listed) ∧ ∀ j,j < i -> ¬ (exF (ops.toList.map (Bd ops)) j = true ∧ j ∈ Region.ready .any ops listed):=by
    obtain ⟨i,hi⟩:=hex
    induction i using Nat.strongRecOn with
    | _ i ihi =>
     by_cases h : ∃ j,j < i ∧ (exF (ops.toList.map (Bd ops)) j = true ∧ j ∈ Region.ready .any ops listed)
     ·obtain ⟨j,hj,hj2⟩:=h
      exact ihi j hj hj2
     ·exact ⟨i,hi,fun j hj hj2 => h ⟨j,hj,hj2⟩⟩
   obtain ⟨hlt,h0,hes⟩:=hrdy i hi (.inl hxi)
   obtain ⟨o,ho,h2,h3⟩:=hop i (by omega)
   have henf : ∀ m,m < i -> enf (ops.toList.map edg) (ops.toList.map (Bd ops)) m i = true -> listed.getD m false = true:=by
    intro m hm hen
    simp only [enf,Bool.and_eq_true,beq_iff_eq] at hen
    cases hx : listed.getD m false
    ·exfalso
     refine hleast m hm ⟨hen.1.1,?_⟩
     obtain ⟨om,hom,_⟩:=hop m (by omega)
     rw [mem_ready]
     refine ⟨by rw [htf hsz (by omega)]; exact hx,om,hom,fun e he hb => ?_⟩
     have hm2 : e.on ∈ (ops.toList.map edg).getD m []:=by
      rw [NF hom]
      exact List.mem_map_of_mem (List.mem_filter.2 ⟨by simpa using he,hb⟩)
     rw [hen.2] at hm2
     exact hes _ hm2
    ·rfl
   obtain ⟨hag,hst⟩:=step i hi (.inl hxi) henf o ho
   obtain ⟨hf,he⟩:=hs i _ hlt h2
   have hX:=hxi
   simp only [exF,h2] at hX
   unfold isX at hX
   split at hX
   ·rename_i sl ix d hop' hg' hd'
    have hop2 : o.op = .extract (.tmp sl) ix:=hop'
    have hg2 : o.guard = none:=by
     have : (Bd ops o).g = none:=hg'
     simpa [Bd] using this
    have hd2 : o.dst = some d:=hd'
    have hw : Region.wanted o (yielded ops a.tmps) = true:=by simp [Region.wanted,hg2]
    rw [if_pos hw] at hst
    have hval : ∃ u,∀ w',(execOp a.eval o).run P w' = .ok (.value u) w':=by
     have hev:=RK hag (U9 hBx) hf he
     simp only [evO,hop',hd'] at hev
     have hev:=hev.2
     unfold XN at hev
     split at hev
     ·rename_i cs hcs
      split at hev
      ·rename_i c hc
       obtain ⟨St,B,hS,_⟩:=hr
       have hsl:=hS.slot sl
       rw [hcs] at hsl
       obtain ⟨us,e1,h1⟩:=hsl
       obtain ⟨u,b1,b2,h2',_⟩:=IA.split cs ix h1 hc hev.1 (hS.nodup sl)
       refine ⟨u,fun w' => ?_⟩
       have e2 : a.eval (.tmp sl) = .tuple us.toArray:=e1
       simp [execOp,hop2,e2,Instr.extract,h2']
      ·exact hev.elim
     ·exact hev.elim
    obtain ⟨u,hu⟩:=hval
    have hfin : wpAny P .any ops Q fuel (listed.setIfInBounds i true) (a.put o.dst u) w:=by
     have:=hst
     unfold Oper.wp at this
     rw [hu w] at this
     exact this
    refine wpAny_first ho hsel (fun c a w h => absurd h (hP _ _ _)) fuel listed a w ?_ hi (.inl ⟨hw,hu⟩) hfin
    intro j oj hoj hji hun hno
    have hjn : j < ops.size:=(Array.getElem?_eq_some_iff.1 hoj).1
    rw [htf hsz hjn] at hun
    have hxx:=(hX' i (by omega)).resolve_left (by rw [hxi]; simp) j hjn
    have hlj : (ops.toList.map (Bd ops))[j]? = some (Bd ops oj):=by simp [hoj]
    rcases hxx with ((h | h) | h) | h
    ·exact absurd (by simpa using h) hji
    ·exfalso
     have hm2 : i ∈ (ops.toList.map edg).getD j []:=by simpa using h
     rw [NF hoj] at hm2
     obtain ⟨e,he,hei⟩:=List.mem_map.1 hm2
     rw [List.mem_filter] at he
     exact hno e (by simpa using he.1) he.2 hei
    ·exfalso
     have:=hanc i hes j (by simpa using h)
     rw [hun] at this; cases this
    ·simp only [apF,h2,hlj,Option.bind_some] at h
     have hdl : (Bd ops o).dst = some d:=hd2
     rw [hdl] at h
     simp only [Bool.and_eq_true,Bool.not_eq_true',bne_iff_ne,ne_eq] at h
     obtain ⟨⟨q1,q2⟩,q3⟩:=h
     have hlook : ∀ (k : Nat) (ok : Oper),ops[k]? = some ok -> (ops.toList.map (Bd ops))[k]? = some (Bd ops ok) -> ∀ t ∈ ok.looksAt ops,(lkL (ops.toList.map (Bd ops)) k).contains t = true:=by
      intro k ok hok' hlk t ht
      unfold lkL
      rw [hlk]
      refine List.contains_iff_mem.2 (List.mem_append.2 ?_)
      unfold Oper.looksAt at ht
      rcases List.mem_append.1 ht with ht | ht
      ·left
       obtain ⟨x,hx1,hx2⟩:=List.mem_filterMap.1 ht
       cases x <;> simp only [Option.some.injEq,reduceCtorEq] at hx2
       subst hx2
       unfold Pg
       exact List.mem_flatMap.2 ⟨_,hx1,by simp [opT]⟩
      ·right
       cases hgk : ok.guard with
       | none => rw [hgk] at ht; simp at ht
       | some p =>
        rw [hgk] at ht
        simp only [Option.mem_toList] at ht
        have : (Bd ops ok).g = some (gD ops p.1,p.2):=by simp [Bd,hgk]
        unfold gT
        rw [this]
        have e3 : gD ops p.1 = some t:=by simpa [gD] using ht
        rw [e3]
        simp
     simp only [Oper.apart,hd2]
     have r1 : d ∉ oj.looksAt ops:=fun hm => by rw [hlook j oj hoj hlj d hm] at q1; cases q1
     have r2 : oj.dst ≠ some d:=q2
     cases hdj : oj.dst with
     | none => simp [r1]
     | some d' =>
      have hdl' : (Bd ops oj).dst = some d':=hdj
      rw [hdl'] at q3
      have r3 : d' ∉ o.looksAt ops:=fun hm => by simp only [hlook i o ho h2 d' hm] at q3; cases q3
      have r4 : d' ≠ d:=fun e => r2 (by rw [hdj,e])
      simp [r1,r3,r4]
   ·cases hX
  ·have hnx : ∀ i,i ∈ Region.ready .any ops listed -> exF (ops.toList.map (Bd ops)) i = false:=fun i hi => by
    cases hx : exF (ops.toList.map (Bd ops)) i
    ·rfl
    ·exact absurd ⟨i,hx,hi⟩ hex
   refine ⟨fun h0 => absurd (fun j hj => hall listed hsz h0 j (by omega)) hful,fun i hi => ?_⟩
   have hpr : ∀ k,exF (ops.toList.map (Bd ops)) k = true -> k ∉ Region.ready .any ops listed:=fun k h1 h2 => hex ⟨k,h1,h2⟩
   obtain ⟨hlt,_⟩:=hrdy i hi (.inr hpr)
   obtain ⟨o,ho,_⟩:=hop i (by omega)
   have:=(step i hi (.inr hpr) (fun m _ hen => by simp only [enf,Bool.and_eq_true] at hen; rw [hnx i hi] at hen; cases hen.1.2) o ho).2
   unfold wpOp
   rw [ho]
   simp only
   split
   ·rename_i hw; rw [if_pos hw] at this; exact .inl this
   ·rename_i hw; rw [if_neg hw] at this; exact this
def okT (p : Nat) (es : List (List Nat)) (ops : List LO) : Bool:=decide (p <= es.length) && (List.range es.length).all fun j => decide (j < p) || (!exF ops j && (List.range j).all fun i => ((Ro [] es).getD j []).contains i || (decide (i < p) && (exF ops i && (es.getD i []).all fun k => ((Ro [] es).getD j []).contains k)))
theorem X7 (htb : KD P tb) (hm : P.follows .mixedOrders = true) (p : Nat) {fps : List (List Nat × List Nat)} {es : List (List Nat)} {ops : List LO} {Q : Exit -> PS -> Prop} (hD : (okD fps es ops && (okF cns fps ops && okT p es ops)) = true)
  (h : evD P tb cns (fps.take p) (ops.take p) σ (fun σ' => ∀ base St0 w0 a w,Rel P nt bx base St0 w0 σ' a w -> ∃ σ2,evS P tb cns (ops.drop p) σ2 (Q .normal) ∧ Rel P nt bx base St0 w0 σ2 a w)) : LS P nt bx (.drw cns fps es ops) σ Q:=by
 intro c hc hok hL
 cases c <;> first | cases hc | skip
 rename_i id ops' d
 simp only [Hy,erC] at hc
 split at hc
 ·rename_i hd
  simp only [LC.drw.injEq,true_and] at hc
  subst hd
  obtain ⟨rfl,rfl⟩:=hc
  intro base St0 w0 a w hr
  rw [Bool.and_eq_true,Bool.and_eq_true] at hD
  obtain ⟨hD,hF,hT⟩:=hD
  simp only [okT,Bool.and_eq_true,decide_eq_true_eq,List.length_map,Array.length_toList,List.all_eq_true,List.mem_range,Bool.or_eq_true,Bool.not_eq_true'] at hT
  obtain ⟨hp,hT⟩:=hT
  have hT' : ∀ j,p <= j -> j < ops'.size -> exF (ops'.toList.map (Bd ops')) j = false ∧ ∀ i,i < j -> ((Ro [] (ops'.toList.map edg)).getD j []).contains i = true ∨ (i < p ∧ exF (ops'.toList.map (Bd ops')) i = true ∧ ∀ k ∈ (ops'.toList.map edg).getD i [],((Ro [] (ops'.toList.map edg)).getD j []).contains k = true):=fun j h1 h2 => (hT j h2).resolve_left (by omega)
  have hT2 : ∀ j,p <= j -> j < ops'.size -> ∀ i,p <= i -> i < j -> ((Ro [] (ops'.toList.map edg)).getD j []).contains i = true:=fun j h1 h2 i h3 h4 => ((hT' j h1 h2).2 i h4).resolve_right (fun h => by omega)
  have hL' : ∀ j,j < ops'.size -> ∀ k ∈ (ops'.toList.map edg).getD j [],k < j:=by
   have hD':=hD
   simp only [okD,Bool.and_eq_true,List.all_eq_true,List.mem_range,List.length_map,Array.length_toList,decide_eq_true_eq] at hD'
   exact fun j hj => (hD'.1.2 j hj).1
  obtain ⟨s1,s0,sk,sb,hs⟩:=Ur (SY p hF) h
  have hlen : ((ops'.toList.map (Bd ops')).take p).length = p:=by simp; omega
  rw [hlen] at sk sb
  have hlen2 : ((ops'.toList.map (Bd ops')).drop p).length = ops'.size - p:=by simp
  have hsH : ∀ i o,i < p -> (ops'.toList.map (Bd ops'))[i]? = some o -> fpS cns (fps.getD i ([],[])).1 (fps.getD i ([],[])).2 o (s1 i) ∧ evO P tb cns o (s1 i) (fun σ' => σ' = s1 (i + 1)):=fun i o hi ho => by
   have:=hs i o (by rw [List.getElem?_take_of_lt hi]; exact ho)
   have e3 : (fps.take p).getD i ([],[]) = fps.getD i ([],[]):=by simp [List.getD_eq_getElem?_getD,List.getElem?_take_of_lt hi]
   rw [e3] at this
   exact this
  refine wp_mono (Q:=fun e a' w' => e = .normal ∧ ∃ σ',Q .normal σ' ∧ Rel P nt bx base St0 w0 σ' a' w') ?_ (fun e a' w' h => by obtain ⟨rfl,h⟩:=h; exact h)
  refine wp_region_any hm (YT htb hp hok hL hD hF hT' sb hsH (fun fuel listed a w h1 h2 h3 h4 => by
   obtain ⟨σ2,hev,hr2⟩:=sk _ _ _ _ _ h4
   obtain ⟨s2,t0,tk,ht⟩:=Us hev
   rw [hlen2] at tk
   refine Xr htb (s:=fun i => s2 (i - p)) hok hL hL' hT2 (fun i o hi ho => ?_) (fun a' w' hr' => ⟨rfl,_,tk,hr'⟩) fuel p listed a w (Nat.le_refl _) hp h1 h2 h3 (by simp only [Nat.sub_self]; rw [t0]; exact hr2)
   have:=ht (i - p) o (by rw [List.getElem?_drop,show p + (i - p) = i by omega]; exact ho)
   show evO P tb cns o (s2 (i - p)) (fun σ' => σ' = s2 (i + 1 - p))
   rw [show i + 1 - p = i - p + 1 by omega]
   exact this) (fun c a w h => by cases h.1) _ _ a _ (by simp) ?_ (fun k hk => ?_) (fun i k hik hk hen hx => ?_) (fun j _ => ?_) ?_)
  ·have:=List.countP_le_length (p:=fun i => !(Array.replicate ops'.size false).getD i false) (l:=List.range ops'.size)
   simpa using this
  ·exfalso
   simp [Array.getElem?_replicate] at hk
   split at hk <;> simp at hk
  ·exfalso
   simp [Array.getElem?_replicate] at hx
   split at hx <;> simp at hx
  ·simp [Array.getElem?_replicate]
   split <;> rfl
  ·have : mix s1 (fun i => (fps.getD i ([],[])).2) (fun i => (Array.replicate ops'.size false).getD i false) p = s1 0:=by
    funext q
    refine PZ (m:=0) (by omega) (fun j _ hj hx => ?_)
    exfalso
    simp [Array.getElem?_replicate] at hx
    split at hx <;> simp at hx
   rw [this,s0]
   exact VH hr
 ·cases hc
theorem X8 (htb : KD P tb) (hm : P.follows .mixedOrders = true) {fps : List (List Nat × List Nat)} {es : List (List Nat)} {ops : List LO} {Q : Exit -> PS -> Prop} (hD : (okD fps es ops && okF cns fps ops) = true) (h : evD P tb cns fps ops σ (Q .normal)) : LS P nt bx (.drw cns fps es ops) σ Q:=by
 rw [Bool.and_eq_true] at hD
 have hl : fps.length = es.length:=by
  have:=hD.1
  simp only [okD,Bool.and_eq_true,beq_iff_eq] at this
  exact this.1.1
 by_cases he : ops.length <= es.length
 ·refine X7 htb hm es.length (by
   rw [Bool.and_eq_true,Bool.and_eq_true]
   refine ⟨hD.1,hD.2,?_⟩
   simp only [okT,Bool.and_eq_true,decide_eq_true_eq,List.all_eq_true,List.mem_range,Bool.or_eq_true]
   exact ⟨Nat.le_refl _,fun j hj => .inl hj⟩) ?_
  rw [List.take_of_length_le (by omega),List.take_of_length_le he,List.drop_of_length_le he]
  exact SA (fun σ' hq base St0 w0 a w hr => ⟨σ',hq,hr⟩) h
 ·exfalso
  have : ∀ {fps : List (List Nat × List Nat)} {os : List LO},okF cns fps os = true -> os.length <= fps.length:=by
   intro fps os
   induction os generalizing fps with
   | nil => intro _; simp
   | cons o os ih =>
    intro h
    cases fps with
    | nil => cases h
    | cons f fps => simp only [okF,Bool.and_eq_true] at h; have:=ih h.2; simp only [List.length_cons]; omega
  have:=this hD.2
  omega
end
section
variable {P : Program} {nt : Nat} {bx : List Nat} {σ : PS} {Q : Exit -> PS -> Prop} {tb : Tb}
end
end Go.Proofs.YtkclaipnejgloaaGreatDoor
namespace Go.Proofs.YtkclaipnejgloaaGreatDoor
open Go.RowKit
set_option linter.unusedVariables false
section
variable {P : Program}
def Zc (P : Program) (c : V) (u : Value) : Prop:=c.Fq = true ∧ ∀ w St,Ow P w St c u []
theorem F7 (k : IntKind) : Zc P (.int k 0) (.int k 0):=⟨rfl,fun _ _ => ⟨rfl,rfl⟩⟩
theorem Wc : Zc P (.bool false) (.bool false):=⟨rfl,fun _ _ => ⟨rfl,rfl⟩⟩
theorem Mc : Zc P (.str []) (.string ⟨#[]⟩):=⟨rfl,fun _ _ => ⟨rfl,rfl,Nat.zero_le _⟩⟩
theorem FD (e : TypeId) : Zc P (.own e 0 []) (.slice none 0 0):=⟨rfl,fun _ _ => Vd e⟩
theorem E2 : ZL P [] []:=fun _ _ => ⟨rfl,rfl⟩
theorem AG {c : V} {cs : List V} {u : Value} {us : List Value} (h : Zc P c u) (hs : ZL P cs us) : ZL P (c :: cs) (u :: us):=fun w St => ⟨u,us,[],[],rfl,rfl,h.1,h.2 w St,hs w St⟩
theorem Mh {t : TypeId} (k : IntKind) (hi : (P.info? t).map (fun i => (i.size,i.zero)) = some (1,some (.int k 0))) (hu : P.underlying t = some (.int k)) : Agr P t (.sc (.int k 0)):=by
 obtain ⟨i,h1,h2⟩:=Option.map_eq_some_iff.1 hi
 simp only [Prod.mk.injEq] at h2
 exact ⟨i,_,_,h1,h2.1,h2.2,AG (F7 k) E2,hu,rfl⟩
theorem Wh {t : TypeId} (hi : (P.info? t).map (fun i => (i.size,i.zero)) = some (1,some (.bool false))) (hu : P.underlying t = some .bool) : Agr P t (.sc (.bool false)):=by
 obtain ⟨i,h1,h2⟩:=Option.map_eq_some_iff.1 hi
 simp only [Prod.mk.injEq] at h2
 exact ⟨i,_,_,h1,h2.1,h2.2,AG Wc E2,hu,rfl⟩
theorem YE {t : TypeId} (hi : (P.info? t).map (fun i => (i.size,i.zero)) = some (1,some (.string ⟨#[]⟩))) (hu : P.underlying t = some .string) : Agr P t (.sc (.str [])):=by
 obtain ⟨i,h1,h2⟩:=Option.map_eq_some_iff.1 hi
 simp only [Prod.mk.injEq] at h2
 exact ⟨i,_,_,h1,h2.1,h2.2,AG Mc E2,hu,rfl⟩
theorem In {t : TypeId} {n : Nat} {z : List V} {us : List Value} {fs : List (Nat × Nat)} {gs : Array Field} (hi : (P.info? t).map (fun i => (i.size,i.zero)) = some (n,some (.agg us.toArray))) (hz : ZL P z us) (hu : P.underlying t = some (.struct gs))
  (hf : gs.toList.map (fun f => (f.offset,csz P f.type)) = fs) (hp : fs.all (fun f => decide (0 < f.2)) = true) : Agr P t (.st n z fs):=by
 obtain ⟨i,h1,h2⟩:=Option.map_eq_some_iff.1 hi
 simp only [Prod.mk.injEq] at h2
 exact ⟨i,_,gs,h1,h2.1,h2.2,by simpa using hz,hu,hf,fun f hf => by have:=List.all_eq_true.1 hp f hf; simpa using this⟩
theorem KX {t e : TypeId} {es eb : Nat} {ez : List V} {zv : Value} (hi : (P.info? t).map (fun i => (i.size,i.zero)) = some (1,some (.slice none 0 0))) (hu : P.underlying t = some (.slice e))
  (hj : (P.info? e).map (fun i => (i.size,i.zero,i.bytes)) = some (es,some zv,eb)) (hz : ZL P ez zv.cells.toList) (hl : ez.length = es) (h0 : 0 < es) (h1 : 0 < eb) (h2 : eb <= 128) : Agr P t (.sl e es eb ez):=by
 obtain ⟨i,h3,h4⟩:=Option.map_eq_some_iff.1 hi
 obtain ⟨j,h5,h6⟩:=Option.map_eq_some_iff.1 hj
 simp only [Prod.mk.injEq] at h4 h6
 exact ⟨i,j,zv,h3,h4.1,h4.2,hu,h5,h6.2.1,h6.1,h6.2.2,hz,hl,h0,h1,h2⟩
end
theorem ab (K : PS -> Prop) (Q : Exit -> PS -> Prop) (σ : PS) : Qp K Q .normal σ = K σ:=rfl
theorem aa (K : PS -> Prop) (Q : Exit -> PS -> Prop) (σ : PS) (i : Nat) : Qp K Q (.exit i) σ = Q (.exit i) σ:=rfl
theorem ac (K : PS -> Prop) (Q : Exit -> PS -> Prop) (σ : PS) : Qp K Q .ret σ = Q .ret σ:=rfl
theorem Wp (i : Nat) (Q : Exit -> PS -> Prop) (σ : PS) : Nz i Q .normal σ = Q .normal σ:=rfl
theorem Wo (i j : Nat) (Q : Exit -> PS -> Prop) (σ : PS) : Nz i Q (.exit j) σ = if j = i then Q .normal σ else Q (.exit j) σ:=rfl
theorem Wq (i : Nat) (Q : Exit -> PS -> Prop) (σ : PS) : Nz i Q .ret σ = Q .ret σ:=rfl
theorem d9 {α : Type} (f : Nat -> α) (d : Nat) (x : α) (s : Nat) : upd f d x s = if s = d then x else f s:=rfl
theorem Ze (c : V) (cs : List V) : Ln (c :: cs) 0 = c:=rfl
theorem Zj (c : V) (cs : List V) (n : Nat) : Ln (c :: cs) (n + 1) = Ln cs n:=rfl
theorem Zi (n : Nat) : Ln [] n = .tup []:=rfl
theorem Zf (c d : V) (cs : List V) : Ln (c :: d :: cs) 1 = d:=rfl
theorem Zg (c d e : V) (cs : List V) : Ln (c :: d :: e :: cs) 2 = e:=rfl
theorem Zh (c d e f : V) (cs : List V) : Ln (c :: d :: e :: f :: cs) 3 = f:=rfl
theorem gr (c : Bool) : isB true (.bool c) = c:=by cases c <;> rfl
theorem gq (c : Bool) : isB false (.bool c) = !c:=by cases c <;> rfl
theorem gu (b : Bool) (cs : List V) : isB b (.tup cs) = false:=rfl
def gIf (c : Bool) (p q : Prop) (_ : Tag (p ∧ q)) : Prop:=(c = true -> p) ∧ (c = false -> q)
theorem ge (p q : Prop) (t : Tag (p ∧ q)) : gIf true p q t = p:=propext ⟨fun h => h.1 rfl,fun h => ⟨fun _ => h,fun e => by cases e⟩⟩
theorem gd (p q : Prop) (t : Tag (p ∧ q)) : gIf false p q t = q:=propext ⟨fun h => h.2 rfl,fun h => ⟨(fun e => by cases e),fun _ => h⟩⟩
theorem W7 (tb : Tb) (o : LO) (σ : PS) (K : PS -> Prop) : H3 tb o σ K = (match o.dst with
 | none => False
 | some d => match o.g with
  | none => pc tb σ o.op ∧ K (upd σ d (pv tb σ o.op))
  | some (none,_) => False
  | some (some q,b) => known (σ q) = true ∧ gIf (isB b (σ q)) (pc tb σ o.op ∧ K (upd σ d (pv tb σ o.op))) (K (upd σ d (.tup []))) ⟨0⟩):=rfl
theorem Ws (P : Program) (o : LO) (f : FuncId) (args : List Operand) (σ : PS) (K : PS -> Prop) : Lg P o f args σ K = (match o.g with
 | none => args.all (fun x => (opV σ x).isArg) = true ∧ ∃ r,XA P σ f args r ∧ Sl (K (TY σ o.dst r)) ⟨0⟩
 | some (q,b) => match q,o.dst with
  | some q,some d => known (σ q) = true ∧ gIf (isB b (σ q)) (args.all (fun x => (opV σ x).isArg) = true ∧ ∃ r,XA P σ f args r ∧ Sl (K (upd σ d r)) ⟨0⟩) (K (upd σ d (.tup []))) ⟨0⟩
  | _,_ => False):=rfl
theorem eo (ez : List V) (es : Nat) : Oz ez es 0 = []:=by simp [Oz]
theorem YD {ez : List V} {es n : Nat} (h : ez.length = es) : Oz ez es (n + 1) = ez ++ Oz ez es n:=by
 unfold Oz
 rw [Nat.add_mul,Nat.one_mul,Nat.add_comm,List.range_add,List.map_append,List.map_map]
 congr 1
 ·apply List.ext_getElem
  ·simp [h]
  ·intro i h1 h2
   simp only [List.length_map,List.length_range] at h1
   simp [Nat.mod_eq_of_lt h1,h2]
 ·apply List.map_congr_left
  intro i _
  simp
theorem Zo {n : Nat} (h : n < 1000) : (n <= lim) = True:=eq_true (by unfold lim; omega)
theorem a5 (l : List V) : (∃ cs,some l = some cs) = True:=eq_true ⟨l,rfl⟩
theorem df (k : IntKind) (n : Int) : B9 (.int k n) = true:=rfl
theorem Zw (b : Bool) : B9 (.bool b) = true:=rfl
theorem dj (s : List UInt8) : B9 (.str s) = true:=rfl
theorem dh (e : TypeId) (n : Nat) (cs : List V) : B9 (.own e n cs) = true:=rfl
theorem de (n : Nat) (cs : List V) : B9 (.dat n cs) = true:=rfl
theorem db (n : Nat) (cs : List V) : B9 (.arg n cs) = true:=rfl
theorem di (u : Value) (n : Nat) (cs : List V) : B9 (.pin u n cs) = true:=rfl
theorem jp (us : List Value) (cs : List V) : B9 (.gh us cs) = true:=rfl
theorem da (cs : List V) : B9 (.agg cs) = true:=rfl
theorem dk (cs : List V) : B9 (.tup cs) = true:=rfl
theorem WW  : B9 (.undef) = true:=rfl
theorem Zy (s : Nat) : B9 (.same s) = true:=rfl
theorem Zx (s o : Nat) : B9 (.cref s o) = true:=rfl
theorem c9 (cs : List V) (o : Nat) : B9 (.adr cs o) = true:=rfl
theorem dc (cs : List V) : B9 (.box cs) = false:=rfl
theorem dl (e : TypeId) (n : Nat) (cs : List V) : B9 (.uni e n cs) = false:=rfl
attribute [go_sem] df Zw dj dh de db di jp da dk WW Zy Zx c9 dc dl
attribute [go_sem] Zo a5 ge gd eo YD
attribute [go_sem] evS evD adP adU opT bas EM M6 EB iaS Wf Wg OR mvV mvC pv pc Jc Ku R4 R3 a6 XO al ak LR LQ opV cV YL Wm unV unC adV getCells PX N4 faV faC Kf NX iaV iaC aw av lenV ao Rw N8 R2 TF TE mxV mxC
 dg dg1 dg2 V.isVal V.isArg V.Fq known gr gq gu Bw TY d9 er erL GG ab aa ac Ze Zf Zg Zh Zj Zi Wp Wo Wq TyD.size IQ JW Oy Sj KQ T2 ar au resV jA kill
attribute [go_sem ↓] evO W7 Ws MO Ox Nc T6 RV XN Yw Nv boxS MM XH TO TP Wi
end Go.Proofs.YtkclaipnejgloaaGreatDoor
namespace Go.Proofs.YtkclaipnejgloaaGreatDoor
open Go.RowKit
set_option linter.unusedVariables false
def fz : Nat:=1099511627780
def Ah {S O : Type} (body : (S -> Option O) -> S -> Option O) : Nat -> S -> Option O
 | 0,_ => none
 | n + 1,s => body (Ah body n) s
def chk {α : Type} (p : Prop) [Decidable p] (x : Option α) : Option α:=if p then x else none
def AA {α : Type} (l : List α) (i : Int) : Option α:=if 0 <= i then l[i.toNat]? else none
def Cq {α : Type} (l : List α) (lo hi : Int) : List α:=(l.take hi.toNat).drop lo.toNat
def Ky {α : Type} (l : List α) (i : Int) (x : α) : List α:=l.set i.toNat x
def Ad {α β : Type} (x : Option α) (f : α -> Option β) : Option β:=match x with
 | some a => f a
 | none => none
theorem An {α : Type} {p : Prop} [Decidable p] {x : Option α} {r : α} (h : chk p x = some r) : p ∧ x = some r:=by
 unfold chk at h
 split at h
 ·rename_i hp; exact ⟨hp,h⟩
 ·cases h
theorem Aa {α β : Type} {x : Option α} {f : α -> Option β} {r : β} (h : Ad x f = some r) : ∃ a,x = some a ∧ f a = some r:=by
 cases x with
 | none => cases h
 | some a => exact ⟨a,rfl,h⟩
theorem Ab {α : Type} {b : Bool} {x y : Option α} {r : α} (h : cond b x y = some r) : (b = true ∧ x = some r) ∨ (b = false ∧ y = some r):=by
 cases b
 ·exact .inr ⟨rfl,h⟩
 ·exact .inl ⟨rfl,h⟩
theorem Am {α : Type} {l : List α} {i : Int} {x : α} (h : AA l i = some x) : 0 <= i ∧ i < l.length ∧ l[i.toNat]? = some x:=by
 unfold AA at h
 split at h
 ·rename_i h0
  have : i.toNat < l.length:=by
   rcases Nat.lt_or_ge i.toNat l.length with h1 | h1
   ·exact h1
   ·rw [List.getElem?_eq_none h1] at h; cases h
  exact ⟨h0,by omega,h⟩
 ·cases h
abbrev oL {α : Type} (e : TypeId) (f : α -> List V) (x : List α) : V:=.own e x.length (x.flatMap f)
abbrev dL {α : Type} (f : α -> List V) (x : List α) : V:=.dat x.length (x.flatMap f)
abbrev wL {α : Type} (e : TypeId) (f : α -> List V) (x : List α) : V:=.uni e x.length (x.flatMap f)
abbrev nI (x : Int) : V:=.int .i64 x
theorem nb {a b : Nat} (h : Nat.ble a b = true) : a <= b:=Nat.le_of_ble_eq_true h
theorem AE {α : Type} {f : α -> List V} {n : Nat} (hf : ∀ x,(f x).length = n) : ∀ l : List α,(l.flatMap f).length = l.length * n
 | [] => by simp
 | x :: l => by rw [List.flatMap_cons,List.length_append,hf,AE hf l,List.length_cons,Nat.add_mul]; omega
theorem LD {α : Type} {f : α -> List V} {n : Nat} (hf : ∀ x,(f x).length = n) : ∀ (l : List α) (k : Nat),(l.flatMap f).drop (k * n) = (l.drop k).flatMap f
 | [],k => by simp
 | x :: l,0 => by simp
 | x :: l,k + 1 => by
  rw [List.flatMap_cons,Nat.add_mul,Nat.one_mul,Nat.add_comm,List.drop_append,List.drop_of_length_le (by rw [hf]; omega),hf,Nat.add_sub_cancel_left,LD hf l k]
  simp
theorem NO {α : Type} {f : α -> List V} {n : Nat} (hf : ∀ x,(f x).length = n) : ∀ (l : List α) (k : Nat),(l.flatMap f).take (k * n) = (l.take k).flatMap f
 | [],k => by simp
 | x :: l,0 => by simp
 | x :: l,k + 1 => by
  rw [List.flatMap_cons,Nat.add_mul,Nat.one_mul,Nat.add_comm,List.take_append,List.take_of_length_le (by rw [hf]; omega),hf,Nat.add_sub_cancel_left,NO hf l k,List.take_succ_cons,List.flatMap_cons]
theorem XR {α : Type} {f : α -> List V} {n : Nat} (hf : ∀ x,(f x).length = n) {l : List α} {k : Nat} {x : α} (h : l[k]? = some x) (off : Nat) : (l.flatMap f).drop (k * n + off) = (f x).drop off ++ (l.drop (k + 1)).flatMap f ∨ n < off:=by
 rcases Nat.lt_or_ge n off with h1 | h1
 ·exact .inr h1
 ·left
  have hk : k < l.length:=by
   rcases Nat.lt_or_ge k l.length with h1 | h1
   ·exact h1
   ·rw [List.getElem?_eq_none h1] at h; cases h
  have hx : l[k] = x:=by rw [List.getElem?_eq_getElem hk] at h; injection h
  rw [<- List.drop_drop,LD hf,List.drop_eq_getElem_cons hk,List.flatMap_cons,hx,List.drop_append_of_le_length (by rw [hf]; exact h1)]
theorem UH {α : Type} {f : α -> List V} {n : Nat} (hf : ∀ x,(f x).length = n) {l : List α} {k : Nat} {x : α} (h : l[k]? = some x) {d : TyD} {off : Nat} (ho : off + d.size <= n) : getCells d (l.flatMap f) (k * n + off) = getCells d (f x) off ∧ k * n + off + d.size <= (l.flatMap f).length:=by
 have hk : k < l.length:=by
  rcases Nat.lt_or_ge k l.length with h1 | h1
  ·exact h1
  ·rw [List.getElem?_eq_none h1] at h; cases h
 have hd:=(XR hf h off).resolve_right (by omega)
 have hlen : ((f x).drop off).length = n - off:=by rw [List.length_drop,hf]
 constructor
 ·have key : ∀ m,m <= n - off -> ((l.flatMap f).drop (k * n + off)).take m = ((f x).drop off).take m:=fun m hm => by rw [hd,List.take_append_of_le_length (by omega)]
  have key1 : d.size = 1 -> (l.flatMap f)[k * n + off]? = (f x)[off]?:=fun h1 => by
   have e1 : (l.flatMap f)[k * n + off]? = ((l.flatMap f).drop (k * n + off))[0]?:=by rw [List.getElem?_drop,Nat.add_zero]
   have e2 : (f x)[off]? = ((f x).drop off)[0]?:=by rw [List.getElem?_drop,Nat.add_zero]
   rw [e1,e2,hd,List.getElem?_append_left (by omega)]
  cases d with
  | st m z fs => simp only [getCells]; rw [key m (by simp only [TyD.size] at ho; omega)]
  | sc z => simp only [getCells]; rw [key1 rfl]
  | sl e es eb ez => simp only [getCells]; rw [key1 rfl]
 ·rw [AE hf]
  have : k * n + n <= l.length * n:=by rw [<- Nat.succ_mul]; exact Nat.mul_le_mul_right _ hk
  omega
theorem Uq : ∀ (a b : List V),erL (a ++ b) = erL a ++ erL b
 | [],b => rfl
 | c :: a,b => by rw [List.cons_append,erL,erL,Uq a b,List.cons_append]
theorem LB {α : Type} {f g : α -> List V} (h : ∀ x,erL (f x) = g x) : ∀ l : List α,erL (l.flatMap f) = l.flatMap g
 | [] => rfl
 | x :: l => by rw [List.flatMap_cons,List.flatMap_cons,Uq,h,LB h l]
theorem Rj {α : Type} {f : α -> List V} {n : Nat} {z : α} {ez : List V} (hz : f z = ez) (hn : ez.length = n) : ∀ k : Nat,Oz ez n k = (List.replicate k z).flatMap f
 | 0 => by simp [Oz]
 | k + 1 => by rw [YD hn,Rj hz hn k,List.replicate_succ,List.flatMap_cons,hz]
theorem VJ {α : Type} {f : α -> List V} {n : Nat} (hf : ∀ x,(f x).length = n) {l : List α} {k : Nat} (hk : k < l.length) (x : α) : Oy (l.flatMap f) (k * n) (f x) = (l.set k x).flatMap f:=by
 unfold Oy
 rw [hf,show k * n + n = (k + 1) * n by rw [Nat.add_mul,Nat.one_mul],NO hf,LD hf,List.set_eq_take_append_cons_drop,if_pos hk,List.flatMap_append,List.flatMap_cons,List.append_assoc]
def ofL : List (Nat × V) -> PS
 | [] => fun _ => .undef
 | (s,c) :: L => upd (ofL L) s c
def okK (σ : PS) : List (Nat × V) -> Prop
 | [] => True
 | (s,c) :: L => Kp (σ s) c ∧ okK σ L
def okR (L : List (Nat × V)) : Bool:=L.all fun p => match EB p.2 with
 | some b => (L.map (·.1)).contains b
 | none => true
def Fg (σ σ' : PS) : Prop := ∀ (P : Program) (nt : Nat) (bx : List Nat) (base : Bs) (St0 : Nat -> Nat -> Prop) (w0 : World) (a : Act) (w : World),Rel P nt bx base St0 w0 σ a w -> Rel P nt bx base St0 w0 σ' a w
theorem Yd {σ : PS} : ∀ {L : List (Nat × V)},okK σ L -> ∀ s,(s ∈ L.map (·.1) -> Kp (σ s) (ofL L s)) ∧ (s ∉ L.map (·.1) -> ofL L s = .undef)
 | [],_,s => ⟨fun h => by simp at h,fun _ => rfl⟩
 | (q,c) :: L,⟨h1,h2⟩,s => by
  obtain ⟨i1,i2⟩:=Yd h2 s
  by_cases e : s = q
  ·subst e
   exact ⟨fun _ => by simp only [ofL,upd_same]; exact h1,fun h => absurd (by simp) h⟩
  ·simp only [ofL,upd_ne _ _ e,List.map_cons,List.mem_cons,e,false_or]
   exact ⟨i1,i2⟩
theorem ZB {L : List (Nat × V)} {s : Nat} {b : Nat} (h : EB (ofL L s) = some b) : ∃ p ∈ L,EB p.2 = some b:=by
 induction L with
 | nil => cases h
 | cons p L ih =>
  obtain ⟨q,c⟩:=p
  by_cases e : s = q
  ·subst e; rw [show ofL ((s,c) :: L) s = c from by simp [ofL,upd_same]] at h; exact ⟨(s,c),by simp,h⟩
  ·rw [show ofL ((q,c) :: L) s = ofL L s from by simp [ofL,upd_ne _ _ e]] at h
   obtain ⟨p,hp,h⟩:=ih h
   exact ⟨p,by simp [hp],h⟩
theorem Vh : ∀ {L : List (Nat × V)} {s : Nat},ofL L s ≠ .undef -> s ∈ L.map (·.1)
 | [],_,h => absurd rfl h
 | (q,c) :: L,s,h => by
  by_cases e : s = q
  ·subst e; simp
  ·have : ofL L s ≠ .undef:=by rwa [show ofL ((q,c) :: L) s = ofL L s from upd_ne _ _ e] at h
   exact List.mem_cons_of_mem _ (Vh this)
theorem RL {σ : PS} {L : List (Nat × V)} (h1 : okK σ L) (h2 : okR L = true) : Fg σ (ofL L):=by
 intro P nt bx base St0 w0 a w hr
 have hcl:=Yd h1
 obtain ⟨St,B,h,hb,hst,hz⟩:=hr
 refine Yl (fun s => ?_) (fun s b e he => ?_) ⟨St,B,h,hb,hst,hz⟩
 ·by_cases hs : s ∈ L.map (·.1)
  ·exact .inr ((hcl s).1 hs)
  ·exact .inl ((hcl s).2 hs)
 ·obtain ⟨p,hp,hpe⟩:=ZB e
  have hb : b ∈ L.map (·.1):=by
   have:=List.all_eq_true.1 h2 p hp
   rw [hpe] at this
   simpa using this
  have hs : s ∈ L.map (·.1):=Vh (fun e' => by rw [e'] at e; cases e)
  obtain ⟨cs,hcs⟩:=h.crefs s b (((hcl s).1 hs).rf b e)
  have hk:=((hcl b).1 hb).bx
  rw [he,hcs] at hk
  cases hk
section
variable {P : Program} {nt : Nat} {bx : List Nat} {σ : PS} {Q : Exit -> PS -> Prop} {tb : Tb} {cns : List Nat}
theorem cY {l : LC} {σ' : PS} (hf : Fg σ σ') (h : LS P nt bx l σ' Q) : LS P nt bx l σ Q :=
 fun c hc hok hL base St0 w0 a w hr => h c hc hok hL base St0 w0 a w (hf _ _ _ _ _ _ _ _ hr)
theorem Ez {l : LC} (L : List (Nat × V)) (h1 : okK σ L) (h2 : okR L = true) (h : LS P nt bx l (ofL L) Q) : LS P nt bx l σ Q:=cY (RL h1 h2) h
theorem Zr {ops : List LO} {y : LC} (htb : KD P tb) (h : evS P tb cns ops σ (fun σ' => LS P nt bx y σ' Q)) : LS P nt bx (.seq (.rgn cns ops) y) σ Q:=SS (X9 htb h)
theorem cZ {fps : List (List Nat × List Nat)} {es : List (List Nat)} {ops : List LO} {y : LC} (htb : KD P tb) (hm : P.follows .mixedOrders = true) (hD : (okD fps es ops && okF cns fps ops) = true) (h : evD P tb cns fps ops σ (fun σ' => LS P nt bx y σ' Q)) : LS P nt bx (.seq (.drw cns fps es ops) y) σ Q:=SS (X8 htb hm hD h)
theorem jo {c : Operand} {x y : LC} {b : Bool} (hb : opV σ c = .bool b) (e : b = true) (h : LS P nt bx x σ Q) : LS P nt bx (.cond c x y) σ Q:=U6 hb (fun _ => h) (fun e' => by rw [e] at e'; cases e')
theorem jn {c : Operand} {x y : LC} {b : Bool} (hb : opV σ c = .bool b) (e : b = false) (h : LS P nt bx y σ Q) : LS P nt bx (.cond c x y) σ Q:=U6 hb (fun e' => by rw [e] at e'; cases e') (fun _ => h)
theorem RE {c : Code} (I : Nat -> PS -> Prop) (m0 : Nat) (h0 : I m0 σ) (round : ∀ m σ (N : PS -> Prop),I m σ -> (∀ σ' m' σ'',m' < m -> I m' σ'' -> Fg σ' σ'' -> N σ') -> Ka P nt bx c σ (Qp N Q)) : Ka P nt bx (.loop c) σ Q:=by
 intro base St0 w0 a w hr b k cs
 have key : ∀ n σ a w,I n σ -> Rel P nt bx base St0 w0 σ a w ->
   ∃ e a' w',(∃ σ',Q e σ' ∧ Rel P nt bx base St0 w0 σ' a' w') ∧ Arrives P (lone (b.at a (.code c :: .inLoop c :: k)) cs w) b k cs e a' w':=by
  intro n
  induction n using Nat.strongRecOn with
  | _ n ih =>
   intro σ a w hI hr
   obtain ⟨e,a₁,w₁,⟨σ₁,hq,hr₁⟩,harr⟩:=round n σ (fun σ' => ∃ m' σ'',m' < n ∧ I m' σ'' ∧ Fg σ' σ'') hI (fun σ' m' σ'' h1 h2 h3 => ⟨m',σ'',h1,h2,h3⟩) base St0 w0 a w hr b (.inLoop c :: k) cs
   cases e with
   | normal =>
    obtain ⟨m',σ'',hlt,hI₁,hfg⟩:=hq
    obtain ⟨e₂,a₂,w₂,hq₂,harr₂⟩:=ih m' hlt σ'' a₁ w₁ hI₁ (hfg _ _ _ _ _ _ _ _ hr₁)
    exact ⟨e₂,a₂,w₂,hq₂,.of_steps (Steps.trans harr (.one step_inLoop)) harr₂⟩
   | exit id => exact ⟨_,a₁,w₁,⟨σ₁,hq,hr₁⟩,.pass (x:=.inLoop c) rfl (fun _ _ => .inl (by simp)) harr⟩
   | goto l => exact ⟨_,a₁,w₁,⟨σ₁,hq,hr₁⟩,.pass (x:=.inLoop c) rfl (fun _ _ => .inl (by simp)) harr⟩
   | ret => exact ⟨_,a₁,w₁,⟨σ₁,hq,hr₁⟩,.pass (x:=.inLoop c) rfl (fun _ _ => .inl (by simp)) harr⟩
   | panic ch => exact ⟨_,a₁,w₁,⟨σ₁,hq,hr₁⟩,.pass (x:=.inLoop c) rfl (fun _ _ => .inl (by simp)) harr⟩
   | outgrown => exact ⟨_,a₁,w₁,⟨σ₁,hq,hr₁⟩,.pass (x:=.inLoop c) rfl (fun _ _ => .inl (by simp)) harr⟩
 obtain ⟨e,a',w',hq,harr⟩:=key m0 σ a w h0 hr
 exact ⟨e,a',w',hq,.of_steps (.one step_loop) harr⟩
theorem WT {x : LC} {D : List Nat} (I : Nat -> PS -> Prop) (m0 : Nat) (h0 : I m0 σ) (round : ∀ m σ (N : PS -> Prop),I m σ -> (∀ σ' m' σ'',m' < m -> I m' σ'' -> Fg σ' σ'' -> N σ') -> LS P nt bx x σ (Qp N Q)) : LS P nt bx (.loop D x) σ Q:=by
 intro c hc hok hL
 cases c <;> first | (cases hc; done) | skip
 ·simp only [Hy,erC] at hc; split at hc <;> cases hc
 ·simp only [Hy,erC,LC.loop.injEq,true_and] at hc
  exact RE I m0 h0 (fun m σ N hI hN => round m σ N hI hN _ hc hok hL)
theorem Aq {x : LC} {D : List Nat} {id : Nat} {S O : Type} (L : S -> List (Nat × V)) (body : (S -> Option O) -> S -> Option O) (m0 : Nat) (s0 : S) (out : O) (h : Ah body m0 s0 = some out) (h1 : okK σ (L s0)) (h2 : ∀ s,okR (L s) = true)
  (round : ∀ m s (N : PS -> Prop),body (Ah body m) s = some out -> (∀ σ' s',Ah body m s' = some out -> okK σ' (L s') -> N σ') -> LS P nt bx x (ofL (L s)) (Qp N (Nz id Q))) : LS P nt bx (.blk id (.loop D x)) σ Q:=by
 refine Ap (cY (RL h1 (h2 s0)) (WT (fun m σ => ∃ s,σ = ofL (L s) ∧ Ah body m s = some out) m0 ⟨s0,rfl,h⟩ ?_))
 rintro m σ N ⟨s,rfl,hs⟩ hN
 cases m with
 | zero => cases hs
 | succ m => exact round m s N hs (fun σ' s' h3 h4 => hN σ' m _ (Nat.lt_succ_self m) ⟨s',rfl,h3⟩ (RL h4 (h2 s')))
end
end Go.Proofs.YtkclaipnejgloaaGreatDoor
namespace Go.Proofs.YtkclaipnejgloaaGreatDoor
open Go.RowKit
set_option linter.unusedVariables false
section
variable {P : Program} {tb : Tb} {cns : List Nat} {σ : PS} {K : PS -> Prop} {d s t : Nat} {c c1 c2 c3 : V} {x y z : Operand}
theorem evn (h : K σ) : evS P tb cns [] σ K:=h
theorem evd {o : LO} {os : List LO} {R W : List Nat} {fps : List (List Nat × List Nat)} (h1 : Wd R W o.op σ = true) (h2 : adB cns R o σ = true) (h : evO P tb cns o σ (fun σ' => evD P tb cns fps os σ' K)) : evD P tb cns ((R,W) :: fps) (o :: os) σ K:=⟨h1,h2,h⟩
theorem Ea {fps : List (List Nat × List Nat)} (h : K σ) (hb : bxS cns σ = true:=by rfl) : evD P tb cns fps [] σ K:=by cases fps <;> exact ⟨hb,h⟩
theorem YH (h : σ s = c) (hv : c.isVal = true) {o : LO} (k : K (upd (upd σ s (dg c)) d c)) : Nc tb o (.tmp s) d σ K:=by
 subst h
 unfold Nc
 simp only
 cases hs : σ s <;> rw [hs] at hv k <;> first | (refine ⟨hv,?_⟩; simp only [Bw,hs]; exact k) | cases hv
theorem YW {e : TypeId} {n : Nat} {cs : List V} (hc : cns.contains d = true) (h : σ s = .uni e n cs) (k : K (upd (upd (kill [s] σ) s (.dat n cs)) d (.own e n cs))) : evO P tb cns ⟨some d,.move (.tmp s),t,none⟩ σ K:=by
 simp only [evO,hc,if_true,Nc,h]; exact ⟨trivial,k⟩
theorem aR {e : TypeId} {n : Nat} {cs : List V} (hc : cns.contains d = true) (h : σ s = .uni e n cs) (hn : B9 (kill [s] σ d) = true) (k : K (upd (kill [s] σ) d (.uni e n cs))) : evO P tb cns ⟨some d,.assign (.tmp s),t,none⟩ σ K:=by
 simp only [evO,hc,if_true,T6,h]; exact ⟨trivial,hn,k⟩
theorem aS {op : BinOp} {ta tc : TypeId} (hx : opV σ x = c1) (hy : opV σ y = c2) (hc : Wm (tb ta) op c1 c2) (k : K (upd σ d (YL op c1 c2))) : evO P tb cns ⟨some d,.binOp op ta x y tc,t,none⟩ σ K:=by
 subst hx hy; exact ⟨hc,k⟩
theorem aU {b off : Nat} {cs : List V} {dd : TyD} {v : V} (hc : cns.contains d = false) (hx : adV σ x = .cref b off) (hb : EM (σ b) = some cs) (ht : tb s = some dd) (ho : off + dd.size <= cs.length) (hg : getCells dd cs off = v) (k : K (upd σ d v)) :
  evO P tb cns ⟨some d,.load s x,t,none⟩ σ K:=by
 simp only [evO,hc,Bool.false_eq_true,if_false,H3,pc,pv,LQ,LR,ht,hx,N4,PX,hb,hg]
 exact ⟨ho,k⟩
theorem aV {α : Type} {f : α -> List V} {n off b : Nat} {l : List α} {i : Int} {e : α} {et : TypeId} {m : Nat} {dd : TyD} {v : V} (hc : cns.contains d = false) (hx : adV σ x = .cref b (i.toNat * n + off)) (hb : σ b = .uni et m (l.flatMap f)) (hf : ∀ x,(f x).length = n) (hi : AA l i = some e) (ht : tb s = some dd) (ho : off + dd.size <= n) (hg : getCells dd (f e) off = v) (k : K (upd σ d v)) :
  evO P tb cns ⟨some d,.load s x,t,none⟩ σ K:=by
 have h1:=UH hf (Am hi).2.2 ho
 exact aU hc hx (by rw [hb]; rfl) ht h1.2 (h1.1.trans hg) k
theorem ga {e : TypeId} {es eb n : Nat} {ez cs : List V} {kk : IntKind} {i : Int} (hx : Kf (opV σ x) = some (n,cs)) (hy : opV σ y = .int kk i) (ht : tb s = some (.sl e es eb ez)) (hi : 0 <= i ∧ i < n) (k : K (upd σ d (.adr (cs.drop (i.toNat * es)) 0))) : evO P tb cns ⟨some d,.indexAddr s x y,t,none⟩ σ K:=by
 have hns : ∀ b,opV σ x ≠ .same b:=fun b h => by rw [h] at hx; cases hx
 have e1 : Wf σ (opV σ x) (opV σ y) = iaC (opV σ x) (opV σ y):=by cases h : opV σ x <;> first | rfl | exact absurd h (hns _) | (rw [h] at hx; cases hx)
 have e2 : iaS σ es (opV σ x) (opV σ y) = iaV es (opV σ x) (opV σ y):=by cases h : opV σ x <;> first | rfl | exact absurd h (hns _) | (rw [h] at hx; cases hx)
 refine ⟨?_,?_⟩
 ·simp only [pc,ak,ht]; rw [e1]; simp only [iaC,hx,hy,NX]; exact hi
 ·simp only [pv,al,ht]; rw [e2]; simp only [iaV,hx,hy,NX]; exact k
theorem aT {e e' : TypeId} {es eb n b : Nat} {ez cs : List V} {kk : IntKind} {i : Int} (hx : opV σ x = .same b) (hb : σ b = .uni e' n cs) (hy : opV σ y = .int kk i) (ht : tb s = some (.sl e es eb ez)) (hi : 0 <= i ∧ i < n) (k : K (upd σ d (.cref b (i.toNat * es)))) : evO P tb cns ⟨some d,.indexAddr s x y,t,none⟩ σ K:=by
 refine ⟨?_,?_⟩
 ·simp only [pc,ak,ht,Wf,hx,hb,hy,NX]; exact hi
 ·simp only [pv,al,ht,iaS,hx,hb,hy,NX]; exact k
theorem aX {u : List UInt8} {kk : IntKind} {i : Int} {b : UInt8} (hx : opV σ x = .str u) (hy : opV σ y = .int kk i) (ht : tb s = some (.sc (.str []))) (hi : AA u i = some b) (k : K (upd σ d (.int .u8 b.toNat))) : evO P tb cns ⟨some d,.index s x y,t,none⟩ σ K:=by
 obtain ⟨h1,h2,h3⟩:=Am hi
 refine ⟨?_,?_⟩
 ·simp only [pc,ht,av,hx,hy,NX]; exact ⟨trivial,h1,h2⟩
 ·simp only [pv,aw,hx,hy,NX,h3]; exact k
theorem Z8 {α : Type} {l : List α} {a b : Int} (h : 0 <= a ∧ a <= b ∧ b <= l.length) : (Cq l a b).length = b.toNat - a.toNat:=by
 unfold Cq; rw [List.length_drop,List.length_take,Nat.min_eq_left (by omega)]
theorem aY {α : Type} {f : α -> List V} {e : TypeId} {es eb : Nat} {ez : List V} {lst : List α} {lo hi : Option Operand} {l h : Int} (hx : Kf (opV σ x) = some (lst.length,lst.flatMap f)) (ht : tb s = some (.sl e es eb ez)) (hf : ∀ x,(f x).length = es) (h1 : Rw 0 (lo.map (opV σ)) = some l) (h2 : Rw lst.length (hi.map (opV σ)) = some h) (hb : 0 <= l ∧ l <= h ∧ h <= lst.length)
  (k : K (upd σ d (QV (opV σ x) (Cq lst l h).length ((Cq lst l h).flatMap f)))) : evO P tb cns ⟨some d,.slice s x lo hi none,t,none⟩ σ K:=by
 have e1 : N8 (some (.sl e es eb ez)) (opV σ x) (lo.map (opV σ)) (hi.map (opV σ)) = QV (opV σ x) (Cq lst l h).length ((Cq lst l h).flatMap f):=by
  rw [Z8 hb]
  unfold Cq
  rw [<- LD hf,<- NO hf]
  cases hc : opV σ x <;> rw [hc] at hx <;> first | (simp only [N8,hx,h1,h2]; done) | cases hx
 refine ⟨?_,?_⟩
 ·simp only [pc,ht]
  cases hc : opV σ x <;> rw [hc] at hx <;> first | (simp only [R2,hx,h1,h2]; exact ⟨hb.1,hb.2.1,hb.2.2,AE hf lst⟩) | cases hx
 ·simp only [pv,ht,e1]; exact k
def erA (σ : PS) : List Operand -> List V -> Prop
 | [],as => as = []
 | x :: xs,as => ∃ a as',as = a :: as' ∧ (opV σ x).isArg = true ∧ er (opV σ x) = a ∧ erA σ xs as'
theorem era {as : List V} {a : V} {xs : List Operand} (h1 : (opV σ x).isArg = true) (h2 : er (opV σ x) = a) (h3 : erA σ xs as) : erA σ (x :: xs) (a :: as):=⟨a,as,rfl,h1,h2,h3⟩
theorem Aw : erA σ [] []:=rfl
theorem Up : ∀ {xs : List Operand} {as : List V},erA σ xs as -> xs.all (fun x => (opV σ x).isArg) = true ∧ (xs.map fun x => er (opV σ x)) = as
 | [],_,h => ⟨rfl,(show _ = [] from h).symm⟩
 | x :: xs,_,⟨a,as',e,h1,h2,h3⟩ => by
  obtain ⟨h4,h5⟩:=Up h3
  rw [e,List.all_cons,h1,h4,List.map_cons,h2,h5]
  exact ⟨rfl,rfl⟩
theorem YV {f : FuncId} {args : Array Operand} {ts : Array TypeId} {dst : Option Nat} {as : List V} {r : V} (hc : dst.toList.any cns.contains = false) (he : erA σ args.toList as) (hs : Ag P f as r) (k : K (TY σ dst r)) : evO P tb cns ⟨dst,.call { callee:=.value (.func f),args:=args,argTypes:=ts },t,none⟩ σ K:=by
 obtain ⟨h1,h2⟩:=Up he
 subst h2
 show JM P cns _ f args.toList σ K
 unfold JM
 rw [if_neg (by simp only [hc]; exact Bool.false_ne_true)]
 exact .inl ⟨h1,r,.inl hs,k⟩
theorem erD {α : Type} {f g : α -> List V} (h : ∀ x,erL (f x) = g x) (l : List α) : er (.dat l.length (l.flatMap f)) = .dat l.length (l.flatMap g):=by rw [er,LB h]
theorem erO {α : Type} {f g : α -> List V} (h : ∀ x,erL (f x) = g x) (l : List α) {e : TypeId} : er (.own e l.length (l.flatMap f)) = .dat l.length (l.flatMap g):=by rw [er,LB h]
theorem erg {cs ds : List V} (h : erL cs = ds) : er (.agg cs) = .agg ds:=by rw [er,h]
theorem erc {c a : V} {cs ds : List V} (h1 : er c = a) (h2 : erL cs = ds) : erL (c :: cs) = a :: ds:=by rw [erL,h1,h2]
def Ak (n : Int) : List V:=[.int .i64 n]
def cbl (b : Bool) : List V:=[.bool b]
def cst (u : List UInt8) : List V:=[.str u]
theorem Ao (n : Int) : (Ak n).length = 1:=rfl
theorem kc (n : Bool) : (cbl n).length = 1:=rfl
theorem Al (n : Int) : erL (Ak n) = Ak n:=rfl
theorem LU {α : Type} {f g : α -> List V} (h : ∀ x,(f x).map dg1 = g x) : ∀ l : List α,(l.flatMap f).map dg1 = l.flatMap g
 | [] => rfl
 | x :: l => by rw [List.flatMap_cons,List.map_append,h,List.flatMap_cons,LU h l]
theorem aQ {α : Type} {f : α -> List V} {e : TypeId} {es eb p q : Nat} {ez ds : List V} {l m : List α} (hx : σ p = .own e l.length (l.flatMap f)) (hy : opV (upd σ p (.dat l.length (l.flatMap f))) (.tmp q) = c2) (hs : Kf c2 = some (m.length,ds)) (hd : ds.length = m.length * es) (ht : tb s = some (.sl e es eb ez)) (ha : T2 c2 = m.flatMap f) (hl : l.length + m.length <= lim) (hv : c2.isVal = true)
  (k : K (upd (upd (upd σ p (.dat l.length (l.flatMap f))) q (dg c2)) d (.own e (l ++ m).length ((l ++ m).flatMap f)))) : evO P tb cns ⟨some d,.call { callee:=.builtin .append,args := #[.tmp p,.tmp q],argTypes := #[s,s] },t,none⟩ σ K:=by
 subst hy
 have e1 : Bw σ (.tmp p) = upd σ p (.dat l.length (l.flatMap f)):=by simp only [Bw,hx,dg,dg2,dg1]
 show Wi tb _ _ _ _ d σ K
 unfold Wi
 have e2 : opV σ (.tmp p) = .own e l.length (l.flatMap f):=hx
 rw [ht,e2,e1,hs]
 refine ⟨rfl,rfl,hd,hl,?_⟩
 rw [ha,<- List.flatMap_append,<- List.length_append]
 exact .inl k
theorem aZ {ty : TypeId} {α : Type} {f : α -> List V} {n b : Nat} {l : List α} {i : Int} {e : α} {et : TypeId} {dd : TyD} (hx : adV σ x = .cref b (i.toNat * n)) (hb : σ b = .uni et l.length (l.flatMap f)) (hf : ∀ x,(f x).length = n) (hi : 0 <= i ∧ i < l.length) (hy : opV σ y = c1) (ht : tb t = some dd) (ha : c1.isArg = true) (hn : n = dd.size) (hc : GG c1 = f e)
  (k : K (upd (Bw σ y) b (.uni et (Ky l i e).length ((Ky l i e).flatMap f)))) : evO P tb cns ⟨none,.store t x y,ty,none⟩ σ K:=by
 subst hy hn
 have hk : i.toNat < l.length:=by omega
 simp only [evO,Yw,ht,hx,hb,EM,M6]
 refine ⟨trivial,ha,by rw [hc,hf],?_,?_⟩
 ·rw [AE hf]
  have : i.toNat * dd.size + dd.size <= l.length * dd.size:=by rw [<- Nat.succ_mul]; exact Nat.mul_le_mul_right _ hk
  omega
 ·rw [hc,VJ hf hk]
  have e1 : (Ky l i e).length = l.length:=by unfold Ky; rw [List.length_set]
  rw [e1] at k
  exact k
theorem fY {dd : TyD} (hn : B9 (σ d) = true) (ht : tb s = some dd) (k : K (upd σ d (.box (Sj dd)))) : evO P tb cns ⟨some d,.alloc s,t,none⟩ σ K:=by
 simp only [evO,Nv,ht]; exact ⟨trivial,hn,k⟩
theorem aW {α : Type} {f : α -> List V} {z : α} {e : TypeId} {es eb : Nat} {ez : List V} {k0 k1 : IntKind} {n : Int} (hc : cns.contains d = true) (hx : opV σ x = .int k0 n) (hy : opV σ y = .int k1 n) (ht : tb s = some (.sl e es eb ez)) (hz : f z = ez) (hez : ez.length = es) (hn : 0 <= n ∧ n.toNat <= lim) (hb : B9 (σ d) = true) (k : K (upd σ d (.uni e (List.replicate n.toNat z).length ((List.replicate n.toNat z).flatMap f)))) : evO P tb cns ⟨some d,.makeSlice s x y,t,none⟩ σ K:=by
 simp only [evO,hc,if_true,TP,ht,hx,hy]
 refine ⟨trivial,hn.1,trivial,hn.2,hb,?_⟩
 rw [Rj hz hez]
 rw [List.length_replicate] at k
 exact k
def gOp (cns : List Nat) (d : Nat) : Op -> Bool
 | .move _ => !cns.contains d
 | .load _ _ => !cns.contains d
 | .pick .. | .binOp .. | .unOp .. | .convert .. | .fieldAddr .. | .indexAddr .. | .index .. | .slice .. => true
 | .call c => match c.callee with
  | .value (.func _) => !cns.contains d
  | .value _ => false
  | _ => true
 | .build .. | .buildSlice .. | .field .. => true
 | _ => false
theorem fZ {op : Op} {q : Nat} {b : Bool} (hg : gOp cns d op = true) (hq : σ q = .bool b) (h : evO P tb cns ⟨some d,op,t,none⟩ σ K) : evO P tb cns ⟨some d,op,t,some (some q,b)⟩ σ K:=by
 have hk : known (σ q) = true:=by rw [hq]; rfl
 have hb : isB b (σ q) = true:=by rw [hq]; simp [isB]
 have hp : H3 tb ⟨some d,op,t,none⟩ σ K -> H3 tb ⟨some d,op,t,some (some q,b)⟩ σ K:=by
  intro h; simp only [H3] at *; exact ⟨hk,fun _ => h,fun e => by rw [hb] at e; cases e⟩
 cases op <;> first | (cases hg; done) | exact hp h | skip
 case move x => simp only [gOp,Bool.not_eq_true'] at hg; simp only [evO,hg,Bool.false_eq_true,if_false] at h ⊢; exact hp h
 case load s x => simp only [gOp,Bool.not_eq_true'] at hg; simp only [evO,hg,Bool.false_eq_true,if_false] at h ⊢; exact hp h
 case call c =>
  obtain ⟨cal,args,ts⟩:=c
  cases cal with
  | value x =>
   cases x with
   | func f =>
    have hcd : cns.contains d = false:=by simpa [gOp] using hg
    replace h : JM P cns ⟨some d,.call ⟨.value (.func f),args,ts⟩,t,none⟩ f args.toList σ K:=h
    show JM P cns ⟨some d,.call ⟨.value (.func f),args,ts⟩,t,some (some q,b)⟩ f args.toList σ K
    unfold JM at h ⊢
    rw [if_neg (by simpa using hcd)] at h ⊢
    rcases h with h | h | h
    ·left
     unfold Lg at h ⊢; exact ⟨hk,fun _ => h,fun e => absurd e (by rw [hb]; simp)⟩
    ·right; left
     unfold Pu at h ⊢
     split at h
     ·exact h
     ·exact ⟨hk,fun _ => h,fun e => absurd e (by rw [hb]; simp)⟩
    ·right; right
     exact ⟨hk,fun _ => h,fun e => absurd e (by rw [hb]; simp)⟩
   | _ => cases hg
  | builtin bn =>
   simp only [evO,MO] at h ⊢
   split at h
   ·rename_i heq; cases heq
   ·exact ⟨hk,fun _ => h,fun e => absurd e (by rw [hb]; simp)⟩
   ·exact hp h
  | _ => exact hp h
 case build s ps => exact ⟨hk,fun _ => h,fun e => absurd e (by rw [hb]; simp)⟩
 case buildSlice s n ps => exact ⟨hk,fun _ => h,fun e => absurd e (by rw [hb]; simp)⟩
 case field s y f => exact ⟨hk,fun _ => h,fun e => absurd e (by rw [hb]; simp)⟩
end
section
variable {P : Program} {nt : Nat} {bx : List Nat} {σ : PS} {Q : Exit -> PS -> Prop} {tb : Tb} {cns : List Nat}
theorem Zs {ops : List LO} {y : LC} (htb : KD P tb) (h : ∀ K : PS -> Prop,(∀ σ',LS P nt bx y σ' Q -> K σ') -> evS P tb cns ops σ K) : LS P nt bx (.seq (.rgn cns ops) y) σ Q:=Zr htb (h _ fun _ h => h)
theorem Zq {fps : List (List Nat × List Nat)} {es : List (List Nat)} {ops : List LO} {y : LC} (htb : KD P tb) (hm : P.follows .mixedOrders = true) (hD : (okD fps es ops && okF cns fps ops) = true) (h : ∀ K : PS -> Prop,(∀ σ',LS P nt bx y σ' Q -> K σ') -> evD P tb cns fps ops σ K) : LS P nt bx (.seq (.drw cns fps es ops) y) σ Q:=cZ htb hm hD (h _ fun _ h => h)
end
end Go.Proofs.YtkclaipnejgloaaGreatDoor
