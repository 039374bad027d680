/-
  The pure machine, part 11: what an operation looks at and what it turns; for regions whose order is open. Over no program; no conditions.
-/
import Derived.Test.YtkmkbpphdalgoaaPrun
namespace Go.Proofs.Ytkmkbpphdalgoaa
open Go.RowKit
set_option linter.unusedVariables false

def opT : Operand → List Nat
  | .tmp t => [t]
  | _ => []
/-- the slots of an operation's operands -/
def opdT (o : Op) : List Nat := o.operands.toList.flatMap opT
/-- the variable behind an address is among the slots -/
def bas (R : List Nat) : V → Bool
  | .cref s _ => R.contains s
  | .same s => R.contains s
  | .uni _ _ _ => false
  | _ => true
/-- operations that turn nothing but their slot -/
def simple (cns : List Nat) (o : LO) : Bool :=
  match o.op, o.dst with
  | .assign _, _ => false
  | .move _, some d => !cns.contains d
  | .load _ _, some d => !cns.contains d
  | .extract _ _, _ => false
  | .store _ _ _, _ => false
  | .alloc _, _ => false
  | .box _ _, _ => false
  | .build _ _, _ => false
  | .buildSlice _ _ _, _ => false
  | .makeSlice _ _ _, _ => false
  | .call c, _ => match c.callee with
    | .builtin .append => false
    | _ => true
  | _, _ => true
def gT (o : LO) : List Nat := match o.g with
  | some (some q, _) => [q]
  | _ => []
/-- R: what it looks at; W: what it turns -/
def fpB (cns R W : List Nat) (o : LO) : Bool :=
  (opdT o.op).all R.contains && (gT o).all R.contains && (o.dst.toList).all W.contains && W.all (fun s => R.contains s || o.dst == some s) && (simple cns o || R.all W.contains) && (match o.op with
    | .alloc _ | .box _ _ => false
    | .assign _ | .makeSlice _ _ _ => o.dst.toList.all (fun d => !cns.contains d)
    | _ => true)
/-- the slots that an operation takes for addresses -/
def adP : Op → List Nat
  | .load _ x => opT x
  | .fieldAddr _ x _ => opT x
  | .store _ x _ => opT x
  | .indexAddr _ x _ => opT x
  | .call c => match c.callee, c.args.toList with
    | .builtin .len, [x] => opT x
    | _, _ => []
  | _ => []
/-- and those that it takes over -/
def adU (cns : List Nat) (o : LO) : List Nat := match o.op, o.dst with
  | .assign x, _ => opT x
  | .move x, some d => if cns.contains d = true then opT x else []
  | _, _ => []
def fpS (cns R W : List Nat) (o : LO) (σ : PS) : Prop := fpB cns R W o = true ∧ (adP o.op).all (fun p => bas R (σ p)) = true ∧ (adU cns o).all (fun p => bas R (σ p)) = true
/-- W as in σ', the rest as in τ -/
def pt (W : List Nat) (σ' τ : PS) : PS := fun s => if W.contains s = true then σ' s else τ s
def updL (σ : PS) : List (Nat × V) → PS
  | [] => σ
  | (s, v) :: us => upd (updL σ us) s v
def Agrees (R : List Nat) (σ τ : PS) : Prop := ∀ s, R.contains s = true → τ s = σ s
theorem updL_out {σ : PS} : ∀ {us : List (Nat × V)} {s : Nat}, s ∉ us.map (·.1) → updL σ us s = σ s
  | [], _, _ => rfl
  | (q, v) :: us, s, h => by
    simp only [List.map_cons, List.mem_cons, not_or] at h
    simp only [updL]
    rw [upd_ne _ _ h.1]
    exact updL_out h.2
theorem updL_in {σ τ : PS} : ∀ {us : List (Nat × V)} {s : Nat}, s ∈ us.map (·.1) → updL τ us s = updL σ us s
  | [], _, h => by simp at h
  | (q, v) :: us, s, h => by
    simp only [updL]
    by_cases e : s = q
    · subst e; rw [upd_same, upd_same]
    · rw [upd_ne _ _ e, upd_ne _ _ e]
      simp only [List.map_cons, List.mem_cons] at h
      exact updL_in (h.resolve_left e)
theorem updL_pt {R W : List Nat} {σ τ : PS} (ha : Agrees R σ τ) {us : List (Nat × V)} (h1 : ∀ s ∈ us.map (·.1), W.contains s = true) (h2 : ∀ s, W.contains s = true → s ∈ us.map (·.1) ∨ R.contains s = true) :
    updL τ us = pt W (updL σ us) τ ∧ ∀ s, W.contains s = false → updL σ us s = σ s := by
  constructor
  · funext s
    unfold pt
    split
    · rename_i hw
      by_cases hk : s ∈ us.map (·.1)
      · exact updL_in hk
      · rw [updL_out hk, updL_out hk]
        exact ha s ((h2 s hw).resolve_left hk)
    · rename_i hw
      exact updL_out (fun hk => hw (h1 s hk))
  · intro s hw
    exact updL_out (fun hk => by rw [h1 s hk] at hw; cases hw)
section
variable {P : Program} {tb : Tb} {cns R W : List Nat} {σ τ : PS} {o : LO} {K : PS → Prop}
theorem opV_agr (ha : Agrees R σ τ) {x : Operand} (hx : (opT x).all R.contains = true) : opV τ x = opV σ x := by
  cases x with
  | tmp t => simp only [opT, List.all_cons, List.all_nil, Bool.and_true] at hx; exact ha t hx
  | _ => rfl
theorem adV_agr (ha : Agrees R σ τ) {x : Operand} (hx : (opT x).all R.contains = true) : adV τ x = adV σ x := by
  cases x with
  | tmp t => simp only [opT, List.all_cons, List.all_nil, Bool.and_true] at hx; simp only [adV, ha t hx]
  | _ => rfl
/-- the variable behind an operand that is an address -/
theorem base_in {x : Operand} {s off : Nat} (hb : (opT x).all (fun p => bas R (σ p)) = true) (hx : (opT x).all R.contains = true) (h : adV σ x = .cref s off) : R.contains s = true := by
  cases x with
  | tmp t =>
    simp only [opT, List.all_cons, List.all_nil, Bool.and_true] at hb hx
    simp only [adV] at h
    split at h
    · simp only [V.cref.injEq] at h; rw [← h.1]; exact hx
    · rw [h] at hb; exact hb
  | _ => cases h
theorem load_agr (ha : Agrees R σ τ) {x : Operand} (d : Option TyD) (hb : (opT x).all (fun p => bas R (σ p)) = true) (hx : (opT x).all R.contains = true) : loadV' d τ (adV τ x) = loadV' d σ (adV σ x) ∧ loadC' d τ (adV τ x) = loadC' d σ (adV σ x) := by
  rw [adV_agr ha hx]
  cases d with
  | none => exact ⟨rfl, rfl⟩
  | some d =>
    cases h : adV σ x with
    | cref s off =>
      have := ha s (base_in hb hx h)
      simp only [loadV', loadC', loadV, loadC, this]
      exact ⟨trivial, trivial⟩
    | _ => exact ⟨rfl, rfl⟩
theorem all_sub {α : Type} {f g : Operand → List α} {p : α → Bool} {xs : List Operand} {x : Operand} (h : (xs.flatMap f).all p = true) (hx : x ∈ xs) : (f x).all p = true := by
  rw [List.all_eq_true] at h ⊢
  exact fun a ha => h a (List.mem_flatMap.2 ⟨x, hx, ha⟩)
theorem same_agr (ha : Agrees R σ τ) {x : Operand} (hb : (opT x).all (fun p => bas R (σ p)) = true) {s : Nat} (h : opV σ x = .same s) : τ s = σ s := by
  cases x with
  | tmp t =>
    simp only [opT, List.all_cons, List.all_nil, Bool.and_true] at hb
    rw [show σ t = .same s from h] at hb
    exact ha s hb
  | const v => exfalso; simp only [opV, cV] at h; split at h <;> (try split at h) <;> cases h
  | _ => cases h
theorem lenS_agr (ha : Agrees R σ τ) {x : Operand} (d : Option TyD) (hb : (opT x).all (fun p => bas R (σ p)) = true) : lenS τ (opV σ x) = lenS σ (opV σ x) ∧ lenSC d τ (opV σ x) = lenSC d σ (opV σ x) := by
  cases h : opV σ x with
  | same s => have := same_agr ha hb h; simp only [lenS, lenSC, this]; exact ⟨trivial, trivial⟩
  | _ => exact ⟨rfl, rfl⟩
theorem iaS_agr (ha : Agrees R σ τ) {x : Operand} (es : Nat) (i : V) (hb : (opT x).all (fun p => bas R (σ p)) = true) : iaS τ es (opV σ x) i = iaS σ es (opV σ x) i ∧ iaSC τ (opV σ x) i = iaSC σ (opV σ x) i := by
  cases h : opV σ x with
  | same s => have := same_agr ha hb h; simp only [iaS, iaSC, this]; exact ⟨trivial, trivial⟩
  | _ => exact ⟨rfl, rfl⟩
theorem callV_agr (ha : Agrees R σ τ) (cal : Callee) (args : List Operand) (ts : List TypeId) (h : ∀ x ∈ args, opV τ x = opV σ x) (hb : (match cal, args with | .builtin .len, [x] => opT x | _, _ => []).all (fun p => bas R (σ p)) = true) : pvCall τ cal args = pvCall σ cal args ∧ pcCall tb τ cal args ts = pcCall tb σ cal args ts := by
  constructor
  · unfold pvCall
    split
    · rw [h _ (by simp)]; exact (lenS_agr ha none hb).1
    · rw [h _ (by simp), h _ (by simp)]
    · rw [h _ (by simp), h _ (by simp)]
    · rfl
  · unfold pcCall
    split
    · rw [h _ (by simp)]; exact (lenS_agr ha _ hb).2
    · rw [h _ (by simp), h _ (by simp)]
    · rw [h _ (by simp), h _ (by simp)]
    · rfl
theorem pure_agr (ha : Agrees R σ τ) {op : Op} (hx : (opdT op).all R.contains = true) (hb : (adP op).all (fun p => bas R (σ p)) = true) : pv tb τ op = pv tb σ op ∧ pc tb τ op = pc tb σ op := by
  have ho : ∀ x, x ∈ op.operands.toList → opV τ x = opV σ x := fun x h => opV_agr ha (all_sub (g := opT) hx h)
  cases op with
  | move x =>
    have h1 := ho x (by simp [Op.operands])
    cases x with
    | tmp t => simp only [pv, pc, mvV, mvC, show τ t = σ t from h1]; exact ⟨trivial, trivial⟩
    | _ => exact ⟨rfl, rfl⟩
  | pick c x y =>
    have h1 := ho c (by simp [Op.operands]); have h2 := ho x (by simp [Op.operands]); have h3 := ho y (by simp [Op.operands])
    have e1 : ∀ v, pickV τ x y v = pickV σ x y v := by intro v; cases v <;> first | rfl | simp only [pickV, h2, h3]
    have e2 : ∀ v, pickC τ x y v = pickC σ x y v := by intro v; cases v <;> first | rfl | simp only [pickC, h2, h3]
    simp only [pv, pc, h1, e1, e2]; exact ⟨trivial, trivial⟩
  | binOp op t x y t' => have h1 := ho x (by simp [Op.operands]); have h2 := ho y (by simp [Op.operands]); simp only [pv, pc, h1, h2]; exact ⟨trivial, trivial⟩
  | unOp op t x => have h1 := ho x (by simp [Op.operands]); simp only [pv, pc, h1]; exact ⟨trivial, trivial⟩
  | convert s d x => have h1 := ho x (by simp [Op.operands]); simp only [pv, pc, h1]; exact ⟨trivial, trivial⟩
  | load t x =>
    have hm : x ∈ (Op.load t x).operands.toList := by simp [Op.operands]
    have := load_agr ha (x := x) (tb t) hb (all_sub (g := opT) hx hm)
    simp only [pv, pc, this.1, this.2]; exact ⟨trivial, trivial⟩
  | fieldAddr t x f =>
    have hm : x ∈ (Op.fieldAddr t x f).operands.toList := by simp [Op.operands]
    have h1 := adV_agr ha (all_sub (g := opT) hx hm)
    have h2 : ∀ d, faC' d f τ (adV σ x) = faC' d f σ (adV σ x) := by
      intro d
      cases h : adV σ x with
      | cref s off =>
        have := ha s (base_in hb (all_sub (g := opT) hx hm) h)
        simp only [faC', faC, this]
      | _ => rfl
    simp only [pv, pc, h1, h2]; exact ⟨trivial, trivial⟩
  | indexAddr t x i =>
    have h1 := ho x (by simp [Op.operands]); have h2 := ho i (by simp [Op.operands])
    simp only [pv, pc, h1, h2, iaV', iaC']
    constructor
    · split
      · exact (iaS_agr ha _ _ hb).1
      · rfl
    · split
      · exact (iaS_agr ha 0 _ hb).2
      · rfl
  | index t x i => have h1 := ho x (by simp [Op.operands]); have h2 := ho i (by simp [Op.operands]); simp only [pv, pc, h1, h2]; exact ⟨trivial, trivial⟩
  | slice t x lo hi mx =>
    have h1 := ho x (by simp [Op.operands])
    have h2 : lo.map (opV τ) = lo.map (opV σ) := by cases lo with | none => rfl | some l => simp only [Option.map_some, ho l (by simp [Op.operands])]
    have h3 : hi.map (opV τ) = hi.map (opV σ) := by cases hi with | none => rfl | some l => simp only [Option.map_some, ho l (by simp [Op.operands])]
    cases mx with
    | none => simp only [pv, pc, h1, h2, h3]; exact ⟨trivial, trivial⟩
    | some m => exact ⟨rfl, rfl⟩
  | call c =>
    have h1 : ∀ x ∈ c.args.toList, opV τ x = opV σ x := fun x h => ho x (by simp [Op.operands, Call.operands]; exact .inr (by simpa using h))
    have h2 := callV_agr (tb := tb) ha c.callee c.args.toList c.argTypes.toList h1 hb
    simp only [pv, pc, h2.1, h2.2]; exact ⟨trivial, trivial⟩
  | _ => exact ⟨rfl, rfl⟩
/-- what an operation does in another state that agrees on what it looks at -/
def Loc (W : List Nat) (σ τ : PS) (K : PS → Prop) (τ' : PS) : Prop := ∃ σ', K σ' ∧ τ' = pt W σ' τ ∧ ∀ s, W.contains s = false → σ' s = σ s
theorem loc_upd (ha : Agrees R σ τ) {us : List (Nat × V)} (h1 : ∀ s ∈ us.map (·.1), W.contains s = true) (h2 : ∀ s, W.contains s = true → s ∈ us.map (·.1) ∨ R.contains s = true) (hk : K (updL σ us)) : Loc W σ τ K (updL τ us) := by
  obtain ⟨e1, e2⟩ := updL_pt ha h1 h2
  exact ⟨_, hk, e1, e2⟩
theorem take_upd (σ : PS) (x : Operand) : ∃ us : List (Nat × V), us.map (·.1) = opT x ∧ takeS σ x = updL σ us ∧ ∀ τ, Agrees (opT x) σ τ → takeS τ x = updL τ us := by
  cases x with
  | tmp t =>
    refine ⟨[(t, dg (σ t))], rfl, rfl, fun τ h => ?_⟩
    have := h t (by simp [opT])
    simp only [takeS, updL, this]
  | const v => exact ⟨[], rfl, rfl, fun _ _ => rfl⟩
  | global g => exact ⟨[], rfl, rfl, fun _ _ => rfl⟩
  | func f => exact ⟨[], rfl, rfl, fun _ _ => rfl⟩
theorem updL_app (σ : PS) (us vs : List (Nat × V)) : updL (updL σ vs) us = updL σ (us ++ vs) := by
  induction us with
  | nil => rfl
  | cons p us ih => obtain ⟨s, v⟩ := p; simp only [updL, List.cons_append, ih]
theorem fpB_parts (h : fpB cns R W o = true) : (opdT o.op).all R.contains = true ∧ (∀ q b, o.g = some (some q, b) → R.contains q = true) ∧ (∀ d, o.dst = some d → W.contains d = true) ∧ (∀ s, W.contains s = true → R.contains s = true ∨ o.dst = some s) ∧ (simple cns o = true ∨ ∀ s, R.contains s = true → W.contains s = true) := by
  simp only [fpB, Bool.and_eq_true] at h
  obtain ⟨⟨⟨⟨⟨h1, h2⟩, h3⟩, h4⟩, h5⟩, _⟩ := h
  refine ⟨h1, fun q b e => ?_, fun d e => ?_, fun s hs => ?_, ?_⟩
  · rw [gT, e] at h2; simpa using h2
  · rw [e] at h3; simpa using h3
  · have := List.all_eq_true.1 h4 s (by simpa using hs)
    simp only [Bool.or_eq_true, beq_iff_eq] at this
    exact this
  · simp only [Bool.or_eq_true] at h5
    rcases h5 with h | h
    · exact .inl h
    · exact .inr fun s hs => List.all_eq_true.1 h s (by simpa using hs)
/-- one slot is turned -/
theorem loc_one (ha : Agrees R σ τ) (hp : fpB cns R W o = true) {d : Nat} (hd : o.dst = some d) {v : V} (hk : K (upd σ d v)) : Loc W σ τ K (upd τ d v) := by
  obtain ⟨h1, h2, h3, h4, h5⟩ := fpB_parts hp
  refine loc_upd (us := [(d, v)]) ha (fun s hs => ?_) (fun s hs => ?_) hk
  · simp only [List.map_cons, List.map_nil, List.mem_singleton] at hs; subst hs; exact h3 _ hd
  · rcases h4 s hs with h | h
    · exact .inr h
    · rw [hd] at h; injection h with h; subst h; exact .inl (by simp)
theorem pureS_loc (ha : Agrees R σ τ) (hf : fpS cns R W o σ) (h : pureS tb o σ K) : pureS tb o τ (Loc W σ τ K) := by
  obtain ⟨h1, h2, h3, h4, h5⟩ := fpB_parts hf.1
  have hp := pure_agr (tb := tb) ha h1 hf.2.1
  unfold pureS at *
  cases hd : o.dst with
  | none => rw [hd] at h; exact h
  | some d =>
    rw [hd] at h
    simp only at h ⊢
    cases hg : o.g with
    | none => rw [hg] at h; rw [hp.1, hp.2]; exact ⟨h.1, loc_one ha hf.1 hd h.2⟩
    | some g =>
      obtain ⟨q, b⟩ := g
      rw [hg] at h
      cases q with
      | none => exact h
      | some q =>
        simp only at h ⊢
        rw [ha q (h2 q b hg), hp.1, hp.2]
        exact ⟨h.1, fun e => ⟨(h.2.1 e).1, loc_one ha hf.1 hd (h.2.1 e).2⟩, fun e => loc_one ha hf.1 hd (h.2.2 e)⟩
theorem callS_loc (ha : Agrees R σ τ) (hf : fpS cns R W o σ) {f : FuncId} {args : List Operand} (hargs : ∀ x ∈ args, (opT x).all R.contains = true) (h : callS P o f args σ K) : callS P o f args τ (Loc W σ τ K) := by
  obtain ⟨h1, h2, h3, h4, h5⟩ := fpB_parts hf.1
  have e1 : (args.map fun x => er (opV τ x)) = args.map fun x => er (opV σ x) := List.map_congr_left fun x hx => by rw [opV_agr ha (hargs x hx)]
  have e2 : args.all (fun x => (opV τ x).isArg) = args.all (fun x => (opV σ x).isArg) := by
    rw [Bool.eq_iff_iff, List.all_eq_true, List.all_eq_true]
    exact ⟨fun h x hx => by have := h x hx; rwa [opV_agr ha (hargs x hx)] at this, fun h x hx => by rw [opV_agr ha (hargs x hx)]; exact h x hx⟩
  unfold callS at *
  rw [e1, e2]
  cases hg : o.g with
  | none =>
    rw [hg] at h
    obtain ⟨q1, r, q2, q3⟩ := h
    refine ⟨q1, r, q2, ?_⟩
    cases hd : o.dst with
    | none =>
      rw [hd] at q3
      simp only [putD] at q3 ⊢
      refine loc_upd (us := []) ha (by simp) (fun s hs => ?_) q3
      rcases h4 s hs with h | h
      · exact .inr h
      · rw [hd] at h; cases h
    | some d => rw [hd] at q3; exact loc_one ha hf.1 hd q3
  | some g =>
    obtain ⟨q, b⟩ := g
    rw [hg] at h
    simp only at h ⊢
    cases q with
    | none => exact h
    | some q =>
      cases hd : o.dst with
      | none => rw [hd] at h; exact h
      | some d =>
        rw [hd] at h
        simp only at h ⊢
        rw [ha q (h2 q b hg)]
        obtain ⟨q1, q2, q3⟩ := h
        refine ⟨q1, fun e => ?_, fun e => loc_one ha hf.1 hd (q3 e)⟩
        obtain ⟨q4, r, q5, q6⟩ := q2 e
        exact ⟨q4, r, q5, loc_one ha hf.1 hd q6⟩
theorem loc_many (ha : Agrees R σ τ) (hp : fpB cns R W o = true) (hns : ∀ s, R.contains s = true → W.contains s = true) {us : List (Nat × V)} (h1 : ∀ s ∈ us.map (·.1), R.contains s = true ∨ o.dst = some s) (h2 : ∀ d, o.dst = some d → d ∈ us.map (·.1)) (hk : K (updL σ us)) : Loc W σ τ K (updL τ us) := by
  obtain ⟨q1, q2, q3, q4, q5⟩ := fpB_parts hp
  refine loc_upd ha (fun s hs => ?_) (fun s hs => ?_) hk
  · rcases h1 s hs with h | h
    · exact hns s h
    · exact q3 s h
  · rcases q4 s hs with h | h
    · exact .inr h
    · exact .inl (h2 s h)
theorem agr_sub {x : Operand} (ha : Agrees R σ τ) (hx : (opT x).all R.contains = true) : Agrees (opT x) σ τ := fun s hs => ha s (List.all_eq_true.1 hx s (by simpa using hs))
theorem mem_opT {x : Operand} {s : Nat} (hx : (opT x).all R.contains = true) (h : s ∈ opT x) : R.contains s = true := List.all_eq_true.1 hx s h
/-- taking an operand up, and a slot more -/
theorem loc_take (ha : Agrees R σ τ) (hp : fpB cns R W o = true) (hns : ∀ s, R.contains s = true → W.contains s = true) {x : Operand} (hx : (opT x).all R.contains = true) {d : Nat} {v : V} (hd : o.dst = some d) (hk : K (upd (takeS σ x) d v)) : Loc W σ τ K (upd (takeS τ x) d v) := by
  obtain ⟨us, e1, e2, e3⟩ := take_upd σ x
  rw [e3 τ (agr_sub ha hx)]
  rw [e2] at hk
  refine loc_many (us := (d, v) :: us) ha hp hns (fun s hs => ?_) (fun d' h => ?_) hk
  · simp only [List.map_cons, List.mem_cons, e1] at hs
    rcases hs with rfl | hs
    · exact .inr hd
    · exact .inl (mem_opT hx hs)
  · rw [hd] at h; injection h with h; subst h; simp
theorem asgS_loc (ha : Agrees R σ τ) (hp : fpB cns R W o = true) (hns : ∀ s, R.contains s = true → W.contains s = true) {x : Operand} (hx : (opT x).all R.contains = true) (hu : (opT x).all (fun p => bas R (σ p)) = true) {d : Nat} (hd : o.dst = some d) (h : asgS tb o x d σ K) : asgS tb o x d τ (Loc W σ τ K) := by
  unfold asgS at *
  split at h
  · split at h
    · exact loc_one ha hp hd h
    · exact h
  · rename_i p
    have e1 : τ p = σ p := opV_agr ha hx
    rw [e1]
    split at h
    · rename_i hs
      simp only [opT, List.all_cons, List.all_nil, Bool.and_true, hs, bas] at hu
      cases hu
    · exact ⟨h.1, loc_take ha hp hns hx hd h.2⟩
  · rw [opV_agr ha hx]
    exact ⟨h.1, loc_take ha hp hns hx hd h.2⟩
theorem fill_loc (place : Nat → Option (Nat × Nat)) : ∀ (parts : List (Nat × Operand)) (σ σ' : PS) (cs cs' : List V), fillP place parts σ cs = some (σ', cs') → ∃ us : List (Nat × V), (∀ s ∈ us.map (·.1), s ∈ parts.flatMap (fun p => opT p.2)) ∧ σ' = updL σ us ∧ ∀ τ, Agrees (parts.flatMap (fun p => opT p.2)) σ τ → fillP place parts τ cs = some (updL τ us, cs')
  | [], σ, σ', cs, cs', h => by
    simp only [fillP, Option.some.injEq, Prod.mk.injEq] at h
    obtain ⟨rfl, rfl⟩ := h
    exact ⟨[], by simp, rfl, fun τ _ => rfl⟩
  | (i, x) :: parts, σ, σ', cs, cs', h => by
    simp only [fillP] at h
    cases hp : place i with
    | none => rw [hp] at h; cases h
    | some q =>
      obtain ⟨off, sz⟩ := q
      rw [hp] at h
      simp only at h
      split at h
      · rename_i hc
        obtain ⟨us, e1, e2, e3⟩ := fill_loc place parts _ _ _ _ h
        obtain ⟨vs, f1, f2, f3⟩ := take_upd σ x
        refine ⟨us ++ vs, fun s hs => ?_, by rw [e2, f2, updL_app], fun τ ha => ?_⟩
        · rw [List.map_append, List.mem_append] at hs
          rw [List.flatMap_cons, List.mem_append]
          rcases hs with hs | hs
          · exact .inr (e1 s hs)
          · exact .inl (by rw [f1] at hs; exact hs)
        · have hx : opV τ x = opV σ x := by
            cases x with
            | tmp t => exact ha t (by simp [opT])
            | _ => rfl
          have hag : Agrees (opT x) σ τ := fun s hs => ha s (by simp only [List.flatMap_cons, List.contains_eq_mem, List.mem_append, decide_eq_true_eq] at *; exact .inl hs)
          simp only [fillP, hp, hx]
          rw [if_pos hc]
          have hag2 : Agrees (parts.flatMap (fun p => opT p.2)) (takeS σ x) (takeS τ x) := by
            intro s hs
            rw [f2, f3 τ hag]
            by_cases hk : s ∈ vs.map (·.1)
            · exact updL_in hk
            · rw [updL_out hk, updL_out hk]
              exact ha s (by simp only [List.flatMap_cons, List.contains_eq_mem, List.mem_append, decide_eq_true_eq] at *; exact .inr hs)
          rw [e3 _ hag2, f3 τ hag, updL_app]
      · cases h
theorem parts_opT {R : List Nat} {parts : Array (Nat × Operand)} (hx : ((parts.toList.map (·.2)).toArray.toList.flatMap opT).all R.contains = true) : ∀ s ∈ parts.toList.flatMap (fun p => opT p.2), R.contains s = true := by
  intro s hs
  rw [List.all_eq_true] at hx
  refine hx s ?_
  rw [List.mem_flatMap] at hs ⊢
  obtain ⟨p, hp, h⟩ := hs
  exact ⟨p.2, (show p.2 ∈ parts.toList.map (·.2) from List.mem_map_of_mem hp), h⟩
theorem evO_loc (ha : Agrees R σ τ) (hf : fpS cns R W o σ) (h : evO P tb cns o σ K) : evO P tb cns o τ (Loc W σ τ K) := by
  obtain ⟨h1, h2, h3, h4, h5⟩ := fpB_parts hf.1
  have hx := h1
  have hb := hf.2.1
  have hub := hf.2.2
  unfold evO at *
  split at h
  · rename_i x d ho hd
    have hns := h5.resolve_left (by simp [simple, ho])
    rw [ho] at hx
    have hcd : ¬ cns.contains d = true := by
      have := hf.1
      simp only [fpB, ho, hd, Bool.and_eq_true] at this
      have := this.2
      simpa using this
    rw [if_neg hcd] at h ⊢
    exact ⟨h.1, asgS_loc ha hf.1 hns (by simpa [opdT, Op.operands] using hx) (by simpa [adU, ho] using hub) hd h.2⟩
  · rename_i x d ho hd
    split at h
    · rename_i hc
      rw [if_pos hc]
      have hns := h5.resolve_left (by simp [simple, ho, hd]; simpa using hc)
      rw [ho] at hx
      have hub' : (opT x).all (fun p => bas R (σ p)) = true := by
        simp only [adU, ho, hd] at hub
        rw [if_pos hc] at hub
        exact hub
      exact ⟨h.1, asgS_loc ha hf.1 hns (by simpa [opdT, Op.operands] using hx) hub' hd h.2⟩
    · rename_i hc; rw [if_neg hc]; exact pureS_loc ha hf h
  · rename_i t x d ho hd
    split at h
    · rename_i hc
      rw [if_pos hc]
      have hns := h5.resolve_left (by simp [simple, ho, hd]; simpa using hc)
      rw [ho] at hx hb
      have hx' : (opT x).all R.contains = true := by simpa [opdT, Op.operands] using hx
      have hb' : (opT x).all (fun p => bas R (σ p)) = true := hb
      refine ⟨h.1, ?_⟩
      have h2 := h.2
      unfold loadS at *
      rw [adV_agr ha hx']
      split at h2
      · rename_i dd s off ht hax
        have hs := ha s (base_in hb' hx' hax)
        rw [hs]
        split at h2
        · refine ⟨h2.1, ?_⟩
          refine loc_many (us := [(d, _), (s, _)]) ha hf.1 hns (fun q hq => ?_) (fun d' hd' => ?_) h2.2
          · simp only [List.map_cons, List.map_nil, List.mem_cons, List.not_mem_nil, or_false] at hq
            rcases hq with rfl | rfl
            · exact .inr hd
            · exact .inl (base_in hb' hx' hax)
          · rw [hd] at hd'; injection hd' with hd'; subst hd'; simp
        · exact h2
      · exact ⟨h2.1, loc_one ha hf.1 hd h2.2⟩
      · exact h2
    · rename_i hc; rw [if_neg hc]; exact pureS_loc ha hf h
  · rename_i s i d ho hd
    have hns := h5.resolve_left (by simp [simple, ho])
    rw [ho] at hx
    have hs : R.contains s = true := by simpa [opdT, Op.operands, opT] using hx
    refine ⟨h.1, ?_⟩
    have h2 := h.2
    unfold extS at *
    rw [ha s hs]
    split at h2
    · split at h2
      · refine ⟨h2.1, loc_many (us := [(d, _), (s, _)]) ha hf.1 hns (fun q hq => ?_) (fun d' hd' => ?_) h2.2⟩
        · simp only [List.map_cons, List.map_nil, List.mem_cons, List.not_mem_nil, or_false] at hq
          rcases hq with rfl | rfl
          · exact .inr hd
          · exact .inl hs
        · rw [hd] at hd'; injection hd' with hd'; subst hd'; simp
      · exact h2
    · exact h2
  · rename_i t x y ho hd
    have hns := h5.resolve_left (by simp [simple, ho])
    rw [ho] at hx hb
    have hxy : (opT x).all R.contains = true ∧ (opT y).all R.contains = true := by simpa [opdT, Op.operands, List.all_append] using hx
    have hb' : (opT x).all (fun p => bas R (σ p)) = true := hb
    refine ⟨h.1, ?_⟩
    have h2 := h.2
    unfold stoS at *
    rw [adV_agr ha hxy.1, opV_agr ha hxy.2]
    split at h2
    · rename_i dd s off ht hax
      have hsR := base_in hb' hxy.1 hax
      rw [ha s hsR]
      split at h2
      · obtain ⟨q1, q2, q3, q4⟩ := h2
        refine ⟨q1, q2, q3, ?_⟩
        obtain ⟨us, e1, e2, e3⟩ := take_upd σ y
        rw [e3 τ (agr_sub ha hxy.2)]
        rw [e2] at q4
        refine loc_many (us := (s, _) :: us) ha hf.1 hns (fun q hq => ?_) (fun d' hd' => by rw [hd] at hd'; cases hd') q4
        simp only [List.map_cons, List.mem_cons, e1] at hq
        rcases hq with rfl | hq
        · exact .inl hsR
        · exact .inl (mem_opT hxy.2 hq)
      · exact h2
    · exact h2
  · rename_i t d ho hd; have := hf.1; simp [fpB, ho] at this
  · rename_i t x d ho hd; have := hf.1; simp [fpB, ho] at this
  · rename_i t ps d ho hd
    have hns := h5.resolve_left (by simp [simple, ho])
    rw [ho] at hx
    refine ⟨h.1, ?_⟩
    have h2 := h.2
    unfold buildS at *
    split at h2
    · split at h2
      · rename_i σ' cs hfl
        obtain ⟨us, e1, e2, e3⟩ := fill_loc _ _ _ _ _ _ hfl
        have hp := parts_opT (R := R) (parts := ps) (by simpa [opdT, Op.operands] using hx)
        rw [e3 τ (fun s hs => ha s (hp s (by simpa using hs)))]
        rw [e2] at h2
        refine loc_many (us := (d, _) :: us) ha hf.1 hns (fun q hq => ?_) (fun d' hd' => ?_) h2
        · simp only [List.map_cons, List.mem_cons] at hq
          rcases hq with rfl | hq
          · exact .inr hd
          · exact .inl (hp q (e1 q hq))
        · rw [hd] at hd'; injection hd' with hd'; subst hd'; simp
      · exact h2.elim
    · exact h2
  · rename_i t n ps d ho hd
    have hns := h5.resolve_left (by simp [simple, ho])
    rw [ho] at hx
    refine ⟨h.1, ?_⟩
    have h2 := h.2
    unfold bslS at *
    split at h2
    · split at h2
      · rename_i σ' cs hfl
        obtain ⟨us, e1, e2, e3⟩ := fill_loc _ _ _ _ _ _ hfl
        have hp := parts_opT (R := R) (parts := ps) (by simpa [opdT, Op.operands] using hx)
        rw [e3 τ (fun s hs => ha s (hp s (by simpa using hs)))]
        rw [e2] at h2
        refine ⟨h2.1, h2.2.1, loc_many (us := (d, _) :: us) ha hf.1 hns (fun q hq => ?_) (fun d' hd' => ?_) h2.2.2⟩
        · simp only [List.map_cons, List.mem_cons] at hq
          rcases hq with rfl | hq
          · exact .inr hd
          · exact .inl (hp q (e1 q hq))
        · rw [hd] at hd'; injection hd' with hd'; subst hd'; simp
      · exact h2.elim
    · exact h2
  · rename_i t x y d ho hd
    rw [ho] at hx
    have hxy : (opT x).all R.contains = true ∧ (opT y).all R.contains = true := by simpa [opdT, Op.operands, List.all_append] using hx
    have hcd : ¬ cns.contains d = true := by
      have := hf.1
      simp only [fpB, ho, hd, Bool.and_eq_true] at this
      have := this.2
      simpa using this
    rw [if_neg hcd] at h ⊢
    refine ⟨h.1, ?_⟩
    have h2 := h.2
    unfold makeS at *
    rw [opV_agr ha hxy.1, opV_agr ha hxy.2]
    split at h2
    · exact ⟨h2.1, h2.2.1, h2.2.2.1, loc_one ha hf.1 hd h2.2.2.2⟩
    · exact h2
  · rename_i d c ho
    rw [ho] at hx
    have hargs : ∀ x ∈ c.args.toList, (opT x).all R.contains = true := fun x hxm => all_sub (g := opT) hx (by simp only [Op.operands, Call.operands]; simp; exact .inr (by simpa using hxm))
    unfold callS' at *
    split at h
    · exact callS_loc ha hf hargs h
    · rename_i d' x y t t' hcal hd hargs' hts
      have hns := h5.resolve_left (by simp [simple, ho, hcal])
      have hx1 := hargs x (by rw [hargs']; simp)
      have hy1 := hargs y (by rw [hargs']; simp)
      refine ⟨h.1, ?_⟩
      have h2 := h.2
      unfold appS at *
      obtain ⟨us, e1, e2, e3⟩ := take_upd σ x
      have hag : Agrees R (takeS σ x) (takeS τ x) := by
        intro s hs
        rw [e2, e3 τ (agr_sub ha hx1)]
        by_cases hk : s ∈ us.map (·.1)
        · exact updL_in hk
        · rw [updL_out hk, updL_out hk]; exact ha s hs
      rw [opV_agr ha hx1, opV_agr hag hy1]
      split at h2
      · obtain ⟨q1, q2, q3, q4, q5⟩ := h2
        refine ⟨q1, q2, q3, q4, ?_⟩
        obtain ⟨vs, f1, f2, f3⟩ := take_upd (takeS σ x) y
        have k1 : takeS (takeS σ x) y = updL σ (vs ++ us) := by rw [f2, e2, updL_app]
        have k2 : takeS (takeS τ x) y = updL τ (vs ++ us) := by rw [f3 _ (agr_sub hag hy1), e3 τ (agr_sub ha hx1), updL_app]
        rw [k1] at q5
        rw [k2]
        refine loc_many (us := (d', _) :: (vs ++ us)) ha hf.1 hns (fun q hq => ?_) (fun d'' hd' => ?_) q5
        · simp only [List.map_cons, List.map_append, List.mem_cons, List.mem_append, e1, f1] at hq
          rcases hq with rfl | hq | hq
          · exact .inr hd
          · exact .inl (mem_opT hy1 hq)
          · exact .inl (mem_opT hx1 hq)
        · rw [hd] at hd'; injection hd' with hd'; subst hd'; simp
      · exact h2
    · exact pureS_loc ha hf h
  · exact pureS_loc ha hf h
end
end Go.Proofs.Ytkmkbpphdalgoaa
