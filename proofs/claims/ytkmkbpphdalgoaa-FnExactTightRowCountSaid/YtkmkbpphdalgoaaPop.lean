/-
  The pure machine, part 3: the operations that only compute and read. Over no program: definitions and lemmas on one operation's run; no conditions.
-/
import Derived.Test.YtkmkbpphdalgoaaPsim
import Derived.Laws.Cells
import Derived.Laws.BytesString
namespace Go.Proofs.Ytkmkbpphdalgoaa
open Go.RowKit
set_option linter.unusedVariables false

/-- what the machine knows of a type: a plain one with its zero, a struct (cells, zero, fields: offset and cells), a slice (element type, its cells, bytes, zero) -/
inductive TyD where
  | sc (z : V)
  | st (size : Nat) (zero : List V) (fields : List (Nat × Nat))
  | sl (e : TypeId) (es eb : Nat) (ez : List V)
abbrev Tb := TypeId → Option TyD
def TyD.size : TyD → Nat
  | .sc _ => 1
  | .st n _ _ => n
  | .sl .. => 1
def TyD.aggr : TyD → Bool
  | .st .. => true
  | _ => false
def ZL (P : Program) (zs : List V) (us : List Value) : Prop := ∀ w St, OwRow P w St zs us []
def Agr (P : Program) (t : TypeId) : TyD → Prop
  | .sc z => ∃ i zv d, P.info? t = some i ∧ i.size = 1 ∧ i.zero = some zv ∧ ZL P [z] [zv] ∧ P.underlying t = some d ∧ (match z with | .int k _ => d = .int k | .bool _ => d = .bool | .str _ => d = .string | _ => False)
  | .st size zero fields => ∃ i arr fs, P.info? t = some i ∧ i.size = size ∧ i.zero = some (.agg arr) ∧ ZL P zero arr.toList ∧ P.underlying t = some (.struct fs) ∧ fs.toList.map (fun f => (f.offset, csz P f.type)) = fields ∧ ∀ f ∈ fields, 0 < f.2
  | .sl e es eb ez => ∃ i j zv, P.info? t = some i ∧ i.size = 1 ∧ i.zero = some (.slice none 0 0) ∧ P.underlying t = some (.slice e) ∧ P.info? e = some j ∧ j.zero = some zv ∧ j.size = es ∧ j.bytes = eb ∧ ZL P ez zv.cells.toList ∧ ez.length = es ∧ 0 < es ∧ 0 < eb ∧ eb ≤ 128
def TbOk (P : Program) (tb : Tb) : Prop := ∀ t d, tb t = some d → Agr P t d

/-- a constant of the text -/
def cV : Value → V
  | .int k n => .int k n
  | .bool b => .bool b
  | .string s => if s.data.toList.length ≤ lim then .str s.data.toList else .undef
  | .slice none 0 0 => .dat 0 []
  | _ => .undef
def opV (σ : PS) : Operand → V
  | .tmp t => σ t
  | .const v => cV v
  | _ => .undef
def binV : BinOp → V → V → V
  | .shl, .int k a, .int _ b => .int k (k.wrap (a * 2 ^ (min b.toNat k.bits)))
  | .shr, .int k a, .int _ b => .int k (a.fdiv (2 ^ (min b.toNat k.bits)))
  | .add, .int k a, .int _ b => .int k (k.wrap (a + b))
  | .sub, .int k a, .int _ b => .int k (k.wrap (a - b))
  | .mul, .int k a, .int _ b => .int k (k.wrap (a * b))
  | .quo, .int k a, .int _ b => .int k (k.wrap (a.tdiv b))
  | .rem, .int k a, .int _ b => .int k (a.tmod b)
  | .and, .int k a, .int _ b => .int k (k.wrap (BitVec.ofInt k.bits a &&& BitVec.ofInt k.bits b).toNat)
  | .or, .int k a, .int _ b => .int k (k.wrap (BitVec.ofInt k.bits a ||| BitVec.ofInt k.bits b).toNat)
  | .xor, .int k a, .int _ b => .int k (k.wrap (BitVec.ofInt k.bits a ^^^ BitVec.ofInt k.bits b).toNat)
  | .andNot, .int k a, .int _ b => .int k (k.wrap (BitVec.ofInt k.bits a &&& ~~~BitVec.ofInt k.bits b).toNat)
  | .eql, .int _ a, .int _ b => .bool (a == b)
  | .neq, .int _ a, .int _ b => .bool (a != b)
  | .lss, .int _ a, .int _ b => .bool (decide (a < b))
  | .leq, .int _ a, .int _ b => .bool (decide (a ≤ b))
  | .gtr, .int _ a, .int _ b => .bool (decide (b < a))
  | .geq, .int _ a, .int _ b => .bool (decide (b ≤ a))
  | .add, .str s, .str t => .str (s ++ t)
  | .eql, .str s, .str t => .bool (s == t)
  | .neq, .str s, .str t => .bool (!(s == t))
  | .lss, .str s, .str t => .bool (Op.bytesLess s t)
  | .leq, .str s, .str t => .bool (Op.bytesLess s t || s == t)
  | .gtr, .str s, .str t => .bool (!(Op.bytesLess s t || s == t))
  | .geq, .str s, .str t => .bool (!Op.bytesLess s t)
  | .eql, .bool a, .bool b => .bool (a == b)
  | .neq, .bool a, .bool b => .bool (!(a == b))
  | _, _, _ => .undef
def binC (d : Option TyD) : BinOp → V → V → Prop
  | .shl, .int _ _, .int _ b => 0 ≤ b
  | .shr, .int _ _, .int _ b => 0 ≤ b
  | .quo, .int k _, .int k' b => k = k' ∧ b ≠ 0
  | .rem, .int k _, .int k' b => k = k' ∧ b ≠ 0
  | .add, .str s, .str t => s.length + t.length ≤ lim
  | _, .int k _, .int k' _ => k = k'
  | .eql, .str _, .str _ => True
  | .neq, .str _, .str _ => True
  | .lss, .str _, .str _ => True
  | .leq, .str _, .str _ => True
  | .gtr, .str _, .str _ => True
  | .geq, .str _, .str _ => True
  | .eql, .bool _, .bool _ => d = some (.sc (.bool false))
  | .neq, .bool _, .bool _ => d = some (.sc (.bool false))
  | _, _, _ => False
def unV : UnOp → V → V
  | .not, .bool b => .bool (!b)
  | .neg, .int k n => .int k (k.wrap (0 - n))
  | _, _ => .undef
def unC : UnOp → V → Prop
  | .not, .bool _ => True
  | .neg, .int _ _ => True
  | _, _ => False

section
variable {P : Program} {w : World} {St : Nat → Nat → Prop} {t : Nat → Value}
theorem slot_int {k : IntKind} {n : Int} {v : Value} {bs : List Nat} (h : SlotR P w St t (.int k n) v bs) : v = .int k n := h.2
theorem slot_bool {b : Bool} {v : Value} {bs : List Nat} (h : SlotR P w St t (.bool b) v bs) : v = .bool b := h.2
theorem slot_str {s : List UInt8} {v : Value} {bs : List Nat} (h : SlotR P w St t (.str s) v bs) : v = .string ⟨s.toArray⟩ ∧ s.length ≤ maxLen := h.2
theorem mk_int (k : IntKind) (n : Int) : SlotR P w St t (.int k n) (.int k n) [] := ⟨rfl, rfl⟩
theorem mk_bool (b : Bool) : SlotR P w St t (.bool b) (.bool b) [] := ⟨rfl, rfl⟩
theorem mk_str {s : List UInt8} (h : s.length ≤ maxLen) : SlotR P w St t (.str s) (.string ⟨s.toArray⟩) [] := ⟨rfl, rfl, h⟩
theorem str_eq (s u : List UInt8) : ((⟨s.toArray⟩ : ByteArray).toList == (⟨u.toArray⟩ : ByteArray).toList) = (s == u) := by simp [ByteArray.toList_eq]
theorem equal_bool {ty : TypeId} (hu : P.underlying ty = some .bool) (n : Nat) (x y : Bool) : (Op.equalIn (n + 1) ty (.bool x) (.bool y)).run P w = .ok (x == y) w := by
  simp [Op.equalIn, run_underlying hu]
theorem bin_run (op : BinOp) (ty : TypeId) (x y : Operand) {c1 c2 : V} {v1 v2 : Value} {b1 b2 : List Nat} (h1 : SlotR P w St t c1 v1 b1) (h2 : SlotR P w St t c2 v2 b2) {d : Option TyD} (hd : ∀ x, d = some x → Agr P ty x) (hc : binC d op c1 c2) :
    ∃ v, (do eqGuard op ty x y v1 v2; binOp op ty v1 v2 : Sem Value).run P w = .ok v w ∧ SlotR P w St t (binV op c1 c2) v [] := by
  unfold binC at hc
  split at hc
  case h_1 | h_2 =>
    obtain rfl := slot_int h1; obtain rfl := slot_int h2
    exact ⟨_, by simp [eqGuard, binOp, Op.shift, Int.not_lt.2 hc], mk_int _ _⟩
  case h_3 | h_4 =>
    obtain rfl := slot_int h1; obtain rfl := slot_int h2
    obtain ⟨rfl, hb⟩ := hc
    exact ⟨_, by simp [eqGuard, binOp, Op.intDiv, hb], mk_int _ _⟩
  case h_5 s u =>
    obtain ⟨rfl, l1⟩ := slot_str h1; obtain ⟨rfl, l2⟩ := slot_str h2
    refine ⟨.string ⟨(s ++ u).toArray⟩, ?_, mk_str (by rw [List.length_append]; exact lim_max hc)⟩
    have h0 : ¬ IntKind.i64.max < ((s.length + u.length : Nat) : Int) := by
      have : IntKind.i64.max = 9223372036854775807 := rfl
      unfold lim at *
      rw [this]
      exact Int.not_lt.2 (by omega)
    have h1 : (⟨s.toArray⟩ : ByteArray) ++ ⟨u.toArray⟩ = ⟨(s ++ u).toArray⟩ := by
      apply ByteArray.ext; simp
    simp only [eqGuard, binOp, Op.stringOp, ByteArray.size, List.size_toArray, h1, GT.gt, h0, if_false]
    simp
  case h_6 =>
    obtain rfl := slot_int h1; obtain rfl := slot_int h2
    subst hc
    cases op <;> first
      | (refine ⟨_, ?_, mk_int _ _⟩; simp only [eqGuard, binOp, Op.intArith, ne_eq, not_true_eq_false, if_false, Sem.run_bind]; rfl)
      | (refine ⟨_, ?_, mk_int _ _⟩; simp only [eqGuard, binOp, ne_eq, not_true_eq_false, if_false, Sem.run_bind]; rfl)
      | (refine ⟨_, ?_, mk_bool _⟩; simp only [eqGuard, binOp, Op.intCmp, ne_eq, not_true_eq_false, if_false, Sem.run_bind]; rfl)
      | (exfalso; simp_all; done)
  case h_7 | h_8 | h_9 | h_10 | h_11 | h_12 =>
    obtain ⟨rfl, l1⟩ := slot_str h1; obtain ⟨rfl, l2⟩ := slot_str h2
    exact ⟨_, by simp [eqGuard, binOp, Op.stringOp, ByteArray.toList_eq], mk_bool _⟩
  case h_13 | h_14 =>
    obtain rfl := slot_bool h1; obtain rfl := slot_bool h2
    refine ⟨_, ?_, mk_bool _⟩
    obtain ⟨_, _, _, _, _, _, _, hu, hz⟩ := hd _ hc
    simp only at hz
    subst hz
    have he : ∀ x y : Bool, (Op.equal ty (.bool x) (.bool y)).run P w = .ok (x == y) w := fun x y => equal_bool hu 9999 x y
    simp [eqGuard, binOp, he]
  case h_15 => exact hc.elim
theorem un_run (op : UnOp) {c : V} {v : Value} {b : List Nat} (h : SlotR P w St t c v b) (hc : unC op c) : ∃ u, (Op.unary op v).run P w = .ok u w ∧ SlotR P w St t (unV op c) u [] := by
  unfold unC at hc
  split at hc
  · obtain rfl := slot_bool h; exact ⟨_, rfl, mk_bool _⟩
  · obtain rfl := slot_int h; exact ⟨_, rfl, mk_int _ _⟩
  · exact hc.elim
theorem add_plain (b o j : Nat) : (⟨b, o, none⟩ : Addr).add j = ⟨b, o + j, none⟩ := by
  unfold Addr.add
  split
  · rename_i h; subst h; rfl
  · rfl
end

/-! ### addresses and loads -/
/-- an address, with a variable's own address as the address of its first cell -/
def adV (σ : PS) : Operand → V
  | .tmp s => match σ s with
    | .box _ => .cref s 0
    | c => c
  | _ => .undef
/-- the value of a type out of the cells from off on -/
def getCells (d : TyD) (cs : List V) (off : Nat) : V :=
  match d with
  | .st n _ _ => .agg (((cs.drop off).take n).map dg1)
  | _ => match cs[off]? with
    | some c => dg1 c
    | none => .undef
def loadV (d : TyD) (σ : PS) : V → V
  | .cref s off => match bxOf (σ s) with
    | some cs => getCells d cs off
    | none => .undef
  | .adr cs off => getCells d cs off
  | _ => .undef
def loadC (d : TyD) (σ : PS) : V → Prop
  | .cref s off => match bxOf (σ s) with
    | some cs => off + d.size ≤ cs.length
    | none => False
  | .adr cs off => off + d.size ≤ cs.length
  | _ => False

section
variable {P : Program} {w : World} {St : Nat → Nat → Prop} {t : Nat → Value}
theorem Agr.isAgg {ty : TypeId} {d : TyD} (h : Agr P ty d) : (isAgg ty).run P w = .ok d.aggr w := by
  cases d with
  | sc z =>
    obtain ⟨i, zv, d, _, _, _, _, hu, hz⟩ := h
    cases z <;> simp only at hz <;> first | exact hz.elim | (subst hz; simp [Go.isAgg, run_underlying hu, TyD.aggr])
  | st n z f => obtain ⟨i, arr, fs, _, _, _, _, hu, _⟩ := h; simp [Go.isAgg, run_underlying hu, TyD.aggr]
  | sl e es eb ez => obtain ⟨i, j, zv, _, _, _, hu, _⟩ := h; simp [Go.isAgg, run_underlying hu, TyD.aggr]
theorem Agr.sizeOf {ty : TypeId} {d : TyD} (h : Agr P ty d) : (Go.sizeOf ty).run P w = .ok d.size w := by
  cases d with
  | sc z => obtain ⟨i, zv, d, hi, hs, _⟩ := h; simp [Go.sizeOf, typeInfo, hi, hs, TyD.size]
  | st n z f => obtain ⟨i, arr, fs, hi, hs, _⟩ := h; simp [Go.sizeOf, typeInfo, hi, hs, TyD.size]
  | sl e es eb ez => obtain ⟨i, j, zv, hi, hs, _⟩ := h; simp [Go.sizeOf, typeInfo, hi, hs, TyD.size]
theorem RdL.take : ∀ {cs : List V} {us : List Value} (n : Nat), RdL w St cs us → RdL w St (cs.take n) (us.take n)
  | [], _, n, h => by rw [show _ = [] from h]; simp [RdL]
  | c :: cs, _, 0, h => by simp [RdL]
  | c :: cs, _, n + 1, ⟨u, us', e, h1, h2⟩ => by rw [e, List.take_succ_cons, List.take_succ_cons]; exact ⟨u, us'.take n, rfl, h1, RdL.take n h2⟩
theorem RdL.drop : ∀ {cs : List V} {us : List Value} (n : Nat), RdL w St cs us → RdL w St (cs.drop n) (us.drop n)
  | [], _, n, h => by rw [show _ = [] from h]; simp [RdL]
  | c :: cs, _, 0, h => by simpa using h
  | c :: cs, _, n + 1, ⟨u, us', e, h1, h2⟩ => by rw [e, List.drop_succ_cons, List.drop_succ_cons]; exact RdL.drop n h2
/-- a load where the cells are known -/
theorem load_at {ty : TypeId} {d : TyD} (hd : Agr P ty d) {cs : List V} {off : Nat} {us : List Value} {b o : Nat} (hr : RdL w St (cs.drop off) us) (hu : ∀ (j : Nat) (u : Value), us[j]? = some u → w.cell? ⟨b, o + j, none⟩ = some u) (hl : off + d.size ≤ cs.length) (hp : 0 < d.size ∨ d.aggr = true) :
    ∃ v, (Instr.loadAt ty (.pointer (some ⟨b, o, none⟩))).run P w = .ok v w ∧ Ow P w St (getCells d cs off) v [] := by
  have hlen := hr.length
  rw [List.length_drop] at hlen
  cases hag : d.aggr with
  | true =>
    cases d with
    | sc z => cases hag
    | sl e es eb ez => cases hag
    | st n z f =>
      simp only [TyD.size] at hl
      have ht := RdL.take n hr
      refine ⟨.agg (us.take n).toArray, ?_, us.take n, rfl, OwRow.ofRd _ ht⟩
      have hr := run_loadCells_list (P := P) (w := w) ⟨b, o, none⟩ (us.take n) (fun j v hv => by
        rw [add_plain]
        rw [List.getElem?_take] at hv
        split at hv
        · exact hu j v hv
        · cases hv)
      rw [List.length_take, Nat.min_eq_left (by omega)] at hr
      simp [Instr.loadAt, Instr.sureAddr, loadVar, hd.isAgg, hd.sizeOf, TyD.aggr, TyD.size, hr]
  | false =>
    have h1 : d.size = 1 := by cases d <;> first | rfl | cases hag
    have hlt : off < cs.length := by omega
    have hc : (cs.drop off)[0]? = some cs[off] := by simp [hlt]
    obtain ⟨u, hu0, hrd⟩ := hr.get 0 _ hc
    have hcell := hu 0 u hu0
    refine ⟨u, ?_, ?_⟩
    · have hcell' : w.cell? ⟨b, o, none⟩ = some u := by simpa using hcell
      simp [Instr.loadAt, Instr.sureAddr, loadVar, hd.isAgg, hag, hcell']
    · have : getCells d cs off = dg1 cs[off] := by
        cases d <;> first | (simp only [getCells, List.getElem?_eq_getElem hlt]; done) | cases hag
      rw [this]
      exact Ow.toRd hrd.deg1
end

section
variable {P : Program} {nt base : Nat} {bx : List Nat} {St : Nat → Nat → Prop} {B : Nat → List Nat} {hand : List Nat} {σ : PS} {a : Act} {w : World}
theorem slot_bx {t : Nat → Value} {c : V} {v : Value} {bs : List Nat} {cs : List V} (hc : bxOf c = some cs) (h : SlotR P w St t c v bs) :
    ∃ g T bs', ∃ arr : Array Value, blkOf v = some g ∧ w.heap[g]? = some (.cells arr T (0, 0)) ∧ OwRow P w St cs arr.toList bs' ∧ bs = g :: bs' ∧ ∀ o, ¬ St g o := by
  cases c <;> simp only [bxOf, Option.some.injEq, reduceCtorEq] at hc
  · subst hc
    obtain ⟨g, T, bs', arr, rfl, h2, h3, h4, h5⟩ := h
    exact ⟨g, T, bs', arr, rfl, h2, h3, h4, h5⟩
  · subst hc
    obtain ⟨g, bs', arr, rfl, h2, h3, h4, h5, _⟩ := h
    exact ⟨g, _, bs', arr, rfl, h2, h3, h4, h5⟩
theorem slot_setBx {t : Nat → Value} {w' : World} {c : V} {v : Value} {bs bs'' : List Nat} {cs cs' : List V} {arr arr' : Array Value} {T : TypeId} {g : Nat} (hc : bxOf c = some cs) (h : SlotR P w St t c v bs) (hg : blkOf v = some g) (hh : w.heap[g]? = some (.cells arr T (0, 0)))
    (hh' : w'.heap[g]? = some (.cells arr' T (0, 0))) (hr : OwRow P w' St cs' arr'.toList bs'') (hst : ∀ o, ¬ St g o) (hl : cs'.length = cs.length) : SlotR P w' St t (setBx c cs') v (g :: bs'') := by
  cases c <;> simp only [bxOf, Option.some.injEq, reduceCtorEq] at hc
  · subst hc
    obtain ⟨g', T', bs', arr0, rfl, h2, h3, h4, h5⟩ := h
    simp only [blkOf, Option.some.injEq] at hg
    subst hg
    exact ⟨g', T, bs'', arr', rfl, hh', hr, rfl, hst⟩
  · subst hc
    obtain ⟨g', bs', arr0, rfl, h2, h3, h4, h5, h6, h7⟩ := h
    simp only [blkOf, Option.some.injEq] at hg
    subst hg
    rw [hh] at h2
    injection h2 with h2
    injection h2 with _ h2
    subst h2
    exact ⟨g', bs'', arr', rfl, hh', hr, rfl, hst, h6, hl.trans h7⟩
theorem adr_cref (h : HSim P nt bx base St B hand σ a w) {x : Operand} {s off : Nat} {cs : List V} (e : adV σ x = .cref s off) (hs : bxOf (σ s) = some cs) :
    ∃ g T bs', ∃ arr : Array Value, a.eval x = .pointer (some ⟨g, off, none⟩) ∧ blkOf (tm a s) = some g ∧ w.heap[g]? = some (.cells arr T (0, 0)) ∧ OwRow P w St cs arr.toList bs' ∧ B s = g :: bs' ∧ ∀ o, ¬ St g o := by
  obtain ⟨g, T, bs', arr, h1, h2, h3, h4, h5⟩ := slot_bx hs (h.slot s)
  cases x with
  | tmp q =>
    simp only [adV] at e
    split at e
    · rename_i cs' hbx
      simp only [V.cref.injEq] at e
      obtain ⟨rfl, rfl⟩ := e
      have hq := h.slot q
      rw [hbx] at hq
      obtain ⟨g', _, _, _, e1, _⟩ := hq
      rw [e1] at h1
      simp only [blkOf, Option.some.injEq] at h1
      subst h1
      exact ⟨g', T, bs', arr, e1, by rw [e1]; rfl, h2, h3, h4, h5⟩
    · have hq := h.slot q
      rw [e] at hq
      obtain ⟨_, g', e1, e2⟩ := hq
      rw [h1] at e1
      injection e1 with e1
      subst e1
      exact ⟨g, T, bs', arr, e2, h1, h2, h3, h4, h5⟩
  | const v => cases e
  | global g => cases e
  | func f => cases e
theorem adr_adr (h : HSim P nt bx base St B hand σ a w) {x : Operand} {cs : List V} {off : Nat} (e : adV σ x = .adr cs off) : ∃ b o, a.eval x = .pointer (some ⟨b, o, none⟩) ∧ RdRow w St b o (cs.drop off) := by
  cases x with
  | tmp q =>
    simp only [adV] at e
    split at e
    · cases e
    · have hq := h.slot q
      rw [e] at hq
      obtain ⟨_, b, o, e1, e2⟩ := hq
      exact ⟨b, o, e1, e2⟩
  | const v => cases e
  | global g => cases e
  | func f => cases e
theorem load_run (h : HSim P nt bx base St B hand σ a w) {ty : TypeId} {d : TyD} (hd : Agr P ty d) {x : Operand} (hc : loadC d σ (adV σ x)) :
    ∃ v, (Instr.loadAt ty (a.eval x)).run P w = .ok v w ∧ Ow P w St (loadV d σ (adV σ x)) v [] := by
  have hp : 0 < d.size ∨ d.aggr = true := by cases d <;> first | exact .inl (Nat.zero_lt_one) | exact .inr rfl
  cases e : adV σ x with
  | cref s off =>
    rw [e] at hc
    simp only [loadC] at hc
    simp only [loadV]
    split at hc
    · rename_i cs hs
      obtain ⟨g, T, bs', arr, h1, h2, h3, h4, h5, h6⟩ := adr_cref h e hs
      rw [h1]
      refine load_at hd (us := arr.toList.drop off) ((OwRow.rdL cs h4).drop off) (fun j u hu => ?_) hc hp
      rw [List.getElem?_drop] at hu
      simpa [World.cell?, h3] using hu
    · exact hc.elim
  | adr cs off =>
    rw [e] at hc
    simp only [loadC] at hc
    simp only [loadV]
    obtain ⟨b, o, h1, h2⟩ := adr_adr h e
    obtain ⟨us, h3, h4⟩ := h2.list
    rw [h1]
    exact load_at hd h3 h4 hc hp
  | _ => rw [e] at hc; exact hc.elim
/-- the address of a field -/
def faV (off : Nat) : V → V
  | .cref s o => .cref s (o + off)
  | .adr cs o => .adr cs (o + off)
  | _ => .undef
def faC (σ : PS) : V → Prop
  | .cref s _ => ∃ cs, bxOf (σ s) = some cs
  | .adr _ _ => True
  | _ => False
theorem field_run (h : HSim P nt bx base St B hand σ a w) {ty : TypeId} {n : Nat} {z : List V} {fs : List (Nat × Nat)} (hd : Agr P ty (.st n z fs)) {f off sz : Nat} (hf : fs[f]? = some (off, sz)) {x : Operand} (hc : faC σ (adV σ x)) :
    ∃ v, (Instr.fieldAt ty (a.eval x) f).run P w = .ok v w ∧ SlotR P w St (tm a) (faV off (adV σ x)) v [] := by
  obtain ⟨i, arr, gs, _, _, _, _, hu, hfs, hpos⟩ := hd
  have hg : ∃ fd, gs[f]? = some fd ∧ fd.offset = off ∧ csz P fd.type = sz := by
    rw [← hfs, List.getElem?_map] at hf
    obtain ⟨fd, h1, h2⟩ := Option.map_eq_some_iff.1 hf
    injection h2 with h2 h3
    exact ⟨fd, by simpa using h1, h2, h3⟩
  obtain ⟨fd, hfd, rfl, hsz⟩ := hg
  have hp : 0 < csz P fd.type := by rw [hsz]; exact hpos _ (List.mem_of_getElem? hf)
  obtain ⟨j, hj, hj0⟩ : ∃ j, P.info? fd.type = some j ∧ j.size ≠ 0 := by
    unfold csz at hp
    cases hi : P.info? fd.type with
    | none => rw [hi] at hp; simp at hp
    | some j => rw [hi] at hp; exact ⟨j, rfl, by simp at hp; omega⟩
  have hrun : ∀ b o, (Instr.fieldAt ty (.pointer (some ⟨b, o, none⟩)) f).run P w = .ok (.pointer (some ⟨b, o + fd.offset, none⟩)) w := by
    intro b o
    simp [Instr.fieldAt, run_underlying hu, hfd, Instr.sureAddr, fieldPlace, Go.sizeOf, typeInfo, hj, hj0, add_plain]
  cases e : adV σ x with
  | cref s o =>
    rw [e] at hc
    obtain ⟨cs, hs⟩ := hc
    obtain ⟨g, T, bs', arr', h1, h2, _⟩ := adr_cref h e hs
    rw [h1]
    exact ⟨_, hrun _ _, rfl, g, h2, rfl⟩
  | adr cs o =>
    obtain ⟨b, o', h1, h2⟩ := adr_adr h e
    rw [h1]
    refine ⟨_, hrun _ _, rfl, b, _, rfl, ?_⟩
    rw [← List.drop_drop]
    exact h2.drop _
  | _ => rw [e] at hc; exact hc.elim

theorem slot_sl {e : TypeId} {n : Nat} {cs : List V} {v : Value} {bs : List Nat} {t : Nat → Value} {c : V} (hc : c = .own e n cs ∨ c = .dat n cs) (h : SlotR P w St t c v bs) : Rd w St (.dat n cs) v := by
  rcases hc with rfl | rfl
  · have := Ow.rd (.own e n cs) (show Ow P w St (.own e n cs) v bs from h) rfl
    simp only [Rd] at this ⊢
    exact this
  · exact Ow.rd (.dat n cs) (show Ow P w St (.dat n cs) v bs from h) rfl
/-- the elements and the cells of a slice -/
def slOf : V → Option (Nat × List V)
  | .own _ n cs => some (n, cs)
  | .dat n cs => some (n, cs)
  | .arg n cs => some (n, cs)
  | .via n cs => some (n, cs)
  | _ => none
theorem slot_slOf {t : Nat → Value} {c : V} {v : Value} {bs : List Nat} {n : Nat} {cs : List V} (hc : slOf c = some (n, cs)) (h : SlotR P w St t c v bs) : Rd w St (.dat n cs) v := by
  cases c <;> simp only [slOf, Option.some.injEq, Prod.mk.injEq, reduceCtorEq] at hc
  · obtain ⟨rfl, rfl⟩ := hc; exact slot_sl (.inl rfl) h
  · obtain ⟨rfl, rfl⟩ := hc; exact slot_sl (e := 0) (.inr rfl) h
  · obtain ⟨rfl, rfl⟩ := hc
    obtain ⟨_, hn, A, c, e, hc, h, h0⟩ := h
    exact ⟨hn, A, c, e, hc, fun hp => let ⟨b, off, ea, _, hr⟩ := h hp; ⟨b, off, ea, hr⟩, h0⟩
  · obtain ⟨rfl, rfl⟩ := hc
    exact Ow.rd (.via _ _) (show Ow P w St (.via _ _) v bs from h) rfl
/-- an index -/
def ixOf : V → Option Int
  | .int _ n => some n
  | _ => none
theorem slot_ix {t : Nat → Value} {c : V} {v : Value} {bs : List Nat} {i : Int} (hc : ixOf c = some i) (h : SlotR P w St t c v bs) : ∃ k, v = .int k i := by
  cases c <;> simp only [ixOf, Option.some.injEq, reduceCtorEq] at hc
  subst hc; exact ⟨_, slot_int h⟩
def iaV (es : Nat) (x i : V) : V := match slOf x, ixOf i with
  | some (_, cs), some i => .adr cs (i.toNat * es)
  | _, _ => .undef
def iaC (x i : V) : Prop := match slOf x, ixOf i with
  | some (n, _), some i => 0 ≤ i ∧ i < n
  | _, _ => False
theorem indexA_run {t : Nat → Value} {ty e : TypeId} {es eb : Nat} {ez : List V} (hd : Agr P ty (.sl e es eb ez)) {c d : V} {v u : Value} {b1 b2 : List Nat} (h1 : SlotR P w St t c v b1) (h2 : SlotR P w St t d u b2) (hc : iaC c d) :
    ∃ r, (Instr.indexAt ty v u).run P w = .ok r w ∧ SlotR P w St t (iaV es c d) r [] := by
  obtain ⟨i, j, zv, _, _, _, hu, hj, _, hes, _⟩ := hd
  unfold iaC at hc
  split at hc
  · rename_i n cs ix hs hi
    obtain ⟨hn, A, cap, rfl, _, hrow, _⟩ := slot_slOf hs h1
    obtain ⟨k, rfl⟩ := slot_ix hi h2
    obtain ⟨b, off, rfl, hr⟩ := hrow (by omega)
    simp only [iaV, hs, hi]
    refine ⟨.pointer (some ⟨b, off + ix.toNat * es, none⟩), ?_, rfl, b, _, rfl, hr.drop _⟩
    simp [Instr.indexAt, asIntOf, run_underlying hu, hc, Go.sizeOf, typeInfo, hj, hes, add_plain]
  · exact hc.elim
end

/-! ### strings, lengths, parts of slices, conversions, max and min -/
def sixV (x i : V) : V := match x, ixOf i with
  | .str s, some i => match s[i.toNat]? with
    | some b => .int .u8 b.toNat
    | none => .undef
  | _, _ => .undef
def sixC (x i : V) : Prop := match x, ixOf i with
  | .str s, some i => 0 ≤ i ∧ i < s.length
  | _, _ => False
def lenV : V → V
  | .str s => .int .i64 s.length
  | c => match slOf c with
    | some (n, _) => .int .i64 n
    | none => .undef
def lenC (d : Option TyD) : V → Prop
  | .str _ => d = some (.sc (.str []))
  | c => match slOf c, d with
    | some _, some (.sl ..) => True
    | _, _ => False
/-- a bound of a part -/
def bdOf (dflt : Int) : Option V → Option Int
  | none => some dflt
  | some c => ixOf c
def partV (d : Option TyD) (x : V) (lo hi : Option V) : V := match d, x with
  | some (.sc _), .str s => match bdOf 0 lo, bdOf s.length hi with
    | some l, some h => .str ((s.take h.toNat).drop l.toNat)
    | _, _ => .undef
  | some (.sl _ es _ _), x => match slOf x with
    | some (n, cs) => match bdOf 0 lo, bdOf n hi with
      | some l, some h => .dat (h.toNat - l.toNat) ((cs.take (h.toNat * es)).drop (l.toNat * es))
      | _, _ => .undef
    | none => .undef
  | _, _ => .undef
def partC (d : Option TyD) (x : V) (lo hi : Option V) : Prop := match d, x with
  | some (.sc (.str [])), .str s => match bdOf 0 lo, bdOf s.length hi with
    | some l, some h => 0 ≤ l ∧ l ≤ h ∧ h ≤ s.length
    | _, _ => False
  | some (.sl _ es _ _), x => match slOf x with
    | some (n, cs) => match bdOf 0 lo, bdOf n hi with
      | some l, some h => 0 ≤ l ∧ l ≤ h ∧ h ≤ n ∧ cs.length = n * es
      | _, _ => False
    | none => False
  | _, _ => False
def byteV : V → UInt8
  | .int _ n => UInt8.ofNat n.toNat
  | _ => 0
def isU8 : V → Bool
  | .int .u8 _ => true
  | _ => false
def convV (dd : Option TyD) (x : V) : V := match dd, x with
  | some (.sc (.int k _)), .int _ n => .int k (k.wrap n)
  | some (.sc (.str _)), x => match slOf x with
    | some (_, cs) => .str (cs.map byteV)
    | none => .undef
  | _, _ => .undef
def convC (tb : Tb) (src dst : TypeId) (x : V) : Prop := match tb src, tb dst, x with
  | some _, some (.sc (.int _ _)), .int _ _ => True
  | some (.sl e _ _ _), some (.sc (.str _)), x => match slOf x, tb e with
    | some (n, cs), some (.sc (.int .u8 _)) => cs.length = n ∧ cs.all isU8 = true
    | _, _ => False
  | _, _, _ => False
def mxV (mx : Bool) (x y : V) : V := match x, y with
  | .int k a, .int _ b => .int k (if mx then (if a < b then b else a) else (if b < a then b else a))
  | _, _ => .undef
def mxC (x y : V) : Prop := match x, y with
  | .int _ _, .int _ _ => True
  | _, _ => False
section
variable {P : Program} {w : World} {St : Nat → Nat → Prop} {t : Nat → Value}
theorem Agr.und {ty : TypeId} {d : TyD} (h : Agr P ty d) : ∃ u, P.underlying ty = some u := by
  cases d with
  | sc z => obtain ⟨i, zv, d, _, _, _, _, hu, hz⟩ := h; exact ⟨_, hu⟩
  | st n z f => obtain ⟨i, arr, fs, _, _, _, _, hu, _⟩ := h; exact ⟨_, hu⟩
  | sl e es eb ez => obtain ⟨i, j, zv, _, _, _, hu, _⟩ := h; exact ⟨_, hu⟩
theorem Agr.str {ty : TypeId} {s : List UInt8} (h : Agr P ty (.sc (.str s))) : P.underlying ty = some .string := by
  obtain ⟨i, zv, d, _, _, _, _, hu, hz⟩ := h; rw [hu]; simp only at hz; rw [hz]
theorem Agr.int {ty : TypeId} {k : IntKind} {n : Int} (h : Agr P ty (.sc (.int k n))) : P.underlying ty = some (.int k) := by
  obtain ⟨i, zv, d, _, _, _, _, hu, hz⟩ := h; rw [hu]; simp only at hz; rw [hz]
theorem size_bytes (s : List UInt8) : (⟨s.toArray⟩ : ByteArray).size = s.length := by show s.toArray.size = _; simp
theorem getElem_bytes (s : List UInt8) (i : Nat) : (⟨s.toArray⟩ : ByteArray)[i]? = s[i]? := by
  simp only [getElem?, decidableGetElem?]
  by_cases h : i < s.length
  · have h' : i < (⟨s.toArray⟩ : ByteArray).size := by simpa [ByteArray.size] using h
    rw [dif_pos h']
    show some (s.toArray[i]'_) = _
    simp [h]
  · have h' : ¬ i < (⟨s.toArray⟩ : ByteArray).size := by simpa [ByteArray.size] using h
    rw [dif_neg h']
    simp [h]
theorem six_run {ty : TypeId} {s0 : List UInt8} (hd : Agr P ty (.sc (.str s0))) {c d : V} {v u : Value} {b1 b2 : List Nat} (h1 : SlotR P w St t c v b1) (h2 : SlotR P w St t d u b2) (hc : sixC c d) :
    ∃ r, (Instr.index ty v u).run P w = .ok r w ∧ SlotR P w St t (sixV c d) r [] := by
  have hu := hd.str
  unfold sixC at hc
  split at hc
  · rename_i s i hi
    obtain ⟨rfl, _⟩ := slot_str h1
    obtain ⟨k, rfl⟩ := slot_ix hi h2
    have hlt : i.toNat < s.length := by omega
    have h0 : (⟨s.toArray⟩ : ByteArray)[i.toNat]? = some s[i.toNat] := by rw [getElem_bytes, List.getElem?_eq_getElem hlt]
    simp only [sixV, hi, List.getElem?_eq_getElem hlt]
    exact ⟨_, by simp [Instr.index, asIntOf, run_underlying hu, hc.1, h0], mk_int _ _⟩
  · exact hc.elim
theorem len_run {ty : TypeId} {rt : TypeId} {d : Option TyD} (hd : ∀ x, d = some x → Agr P ty x) {c : V} {v : Value} {b1 : List Nat} (h1 : SlotR P w St t c v b1) (hc : lenC d c) :
    ∃ r, (Builtin.len_ #[ty] rt #[v]).run P w = .ok r w ∧ SlotR P w St t (lenV c) r [] := by
  unfold lenC at hc
  split at hc
  · rename_i s
    obtain ⟨rfl, _⟩ := slot_str h1
    refine ⟨.int .i64 s.length, ?_, mk_int _ _⟩
    have hu := run_underlying (hd _ hc).str
    simp only [Builtin.len_, Sem.run_bind, List.getElem?_toArray, List.getElem?_cons_zero, hu, Result.andThen_ok, size_bytes, Sem.run_pure, goInt]
  · rename_i hns
    cases hsl : slOf c with
    | none => rw [hsl] at hc; exact hc.elim
    | some z =>
      obtain ⟨n, cs⟩ := z
      rw [hsl] at hc
      cases d with
      | none => exact hc.elim
      | some d =>
        cases d with
        | sc z => exact hc.elim
        | st n z f => exact hc.elim
        | sl e es eb ez =>
          obtain ⟨_, A, cap, rfl, _⟩ := slot_slOf hsl h1
          obtain ⟨i, j, zv, _, _, _, hu, _⟩ := hd _ rfl
          have : lenV c = .int .i64 n := by
            cases c <;> first | (simp only [slOf, Option.some.injEq, Prod.mk.injEq] at hsl; simp [lenV, slOf, hsl.1]; done) | cases hsl
          rw [this]
          exact ⟨_, by simp [Builtin.len_, run_underlying hu, goInt], mk_int _ _⟩
theorem extract_bytes (s : List UInt8) (l h : Nat) : (⟨s.toArray⟩ : ByteArray).extract l h = ⟨((s.take h).drop l).toArray⟩ := by
  apply ByteArray.ext
  rw [ByteArray.data_extract]
  apply Array.ext'
  rw [Array.toList_extract, List.extract_eq_take_drop, List.drop_take]
/-- a bound, as it stands at the call -/
def BdR (dflt i : Int) (v : Option Value) : Prop := (v = none ∧ i = dflt) ∨ ∃ k, v = some (.int k i)
theorem bd_of {lo : Option V} {vl : Option Value} {l dflt : Int} (hl : bdOf dflt lo = some l) (hv : ∀ c, lo = some c → ∃ v b, vl = some v ∧ SlotR P w St t c v b) (hn : lo = none → vl = none) : BdR dflt l vl := by
  cases lo with
  | none => simp only [bdOf, Option.some.injEq] at hl; exact .inl ⟨hn rfl, hl.symm⟩
  | some c =>
    obtain ⟨v, b, e, h⟩ := hv c rfl
    obtain ⟨k, rfl⟩ := slot_ix hl h
    exact .inr ⟨k, e⟩
theorem bounds_run (isS : Bool) (len cap : Nat) {l h : Int} {vl vh : Option Value} (hl : BdR 0 l vl) (hh : BdR len h vh) (h0 : 0 ≤ l) (h1 : l ≤ h) (h2 : h ≤ cap) :
    (Instr.sliceBounds isS len cap vl vh none).run P w = .ok (l.toNat, h.toNat, cap) w := by
  rcases hl with ⟨rfl, rfl⟩ | ⟨k, rfl⟩ <;> rcases hh with ⟨rfl, rfl⟩ | ⟨k', rfl⟩
  · simp [Instr.sliceBounds]
  · simp [Instr.sliceBounds, Instr.sliceBound, asIntOf, show 0 ≤ h by omega, h2]
  · simp [Instr.sliceBounds, Instr.sliceBound, asIntOf, h0, h1]
  · simp [Instr.sliceBounds, Instr.sliceBound, asIntOf, show 0 ≤ h by omega, h2, h0]
    intro hx; omega
theorem part_run {ty : TypeId} {d : Option TyD} (hd : ∀ x, d = some x → Agr P ty x) {c : V} {v : Value} {b1 : List Nat} (h1 : SlotR P w St t c v b1) {lo hi : Option V} {vl vh : Option Value}
    (hlv : ∀ c, lo = some c → ∃ v b, vl = some v ∧ SlotR P w St t c v b) (hln : lo = none → vl = none) (hhv : ∀ c, hi = some c → ∃ v b, vh = some v ∧ SlotR P w St t c v b) (hhn : hi = none → vh = none) (hc : partC d c lo hi) :
    ∃ r, (Instr.sliceAt ty v vl vh none).run P w = .ok r w ∧ SlotR P w St t (partV d c lo hi) r [] := by
  unfold partC at hc
  split at hc
  · rename_i s
    obtain ⟨rfl, hs⟩ := slot_str h1
    have hu := run_underlying (P := P) (hd _ rfl).str w
    split at hc
    · rename_i l h hl hh
      have e := bounds_run (P := P) (w := w) false s.length s.length (bd_of hl hlv hln) (bd_of hh hhv hhn) hc.1 hc.2.1 hc.2.2
      refine ⟨.string ⟨((s.take h.toNat).drop l.toNat).toArray⟩, ?_, ?_⟩
      · simp [Instr.sliceAt, Instr.slice, hu, size_bytes, e, extract_bytes]
      · simp only [partV, hl, hh]
        exact mk_str (by simp; omega)
    · exact hc.elim
  · rename_i e es eb ez
    cases hsl : slOf c with
    | none => rw [hsl] at hc; exact hc.elim
    | some z =>
      obtain ⟨n, cs⟩ := z
      rw [hsl] at hc
      simp only at hc
      split at hc
      · rename_i l h hl hh
        obtain ⟨hn, A, cap, rfl, hcap, hrow, h0⟩ := slot_slOf hsl h1
        obtain ⟨i, j, zv, _, _, _, hu, hj, _, hes, _⟩ := hd _ rfl
        have hbd := bounds_run (P := P) (w := w) true n cap (bd_of hl hlv hln) (bd_of hh hhv hhn) hc.1 hc.2.1 (by omega)
        have hv : partV (some (.sl e es eb ez)) c lo hi = .dat (h.toNat - l.toNat) ((cs.take (h.toNat * es)).drop (l.toNat * es)) := by
          cases c <;> simp only [slOf, Option.some.injEq, Prod.mk.injEq, reduceCtorEq] at hsl <;> simp [partV, slOf, hsl, hl, hh]
        rw [hv]
        refine ⟨.slice (if cap = l.toNat then A else A.map (·.add (l.toNat * es))) (h.toNat - l.toNat) (cap - l.toNat), ?_, rfl, ?_⟩
        · simp [Instr.sliceAt, Instr.slice, run_underlying hu, hbd, Go.sizeOf, typeInfo, hj, hes]
        · refine ⟨Nat.le_trans (by omega) hn, _, _, rfl, by omega, fun hp => ?_, fun hz => ?_⟩
          · obtain ⟨b, off, rfl, hr⟩ := hrow (by omega)
            refine ⟨b, off + l.toNat * es, by rw [if_neg (by omega)]; simp [add_plain], ?_⟩
            rw [List.drop_take]
            exact (hr.drop _).take _
          · have : l.toNat = h.toNat := by omega
            rw [this]
            simp
      · exact hc.elim
  · exact hc.elim
theorem max_run {rt : TypeId} {ts : Array TypeId} {c d : V} {v u : Value} {b1 b2 : List Nat} (h1 : SlotR P w St t c v b1) (h2 : SlotR P w St t d u b2) (hc : mxC c d) :
    ∃ r, (Builtin.max_ ts rt #[v, u]).run P w = .ok r w ∧ SlotR P w St t (mxV true c d) r [] := by
  unfold mxC at hc
  split at hc
  · obtain rfl := slot_int h1; obtain rfl := slot_int h2
    refine ⟨_, ?_, mk_int _ _⟩
    simp [Builtin.max_, Builtin.max2]
  · exact hc.elim
theorem min_run {rt : TypeId} {ts : Array TypeId} {c d : V} {v u : Value} {b1 b2 : List Nat} (h1 : SlotR P w St t c v b1) (h2 : SlotR P w St t d u b2) (hc : mxC c d) :
    ∃ r, (Builtin.min_ ts rt #[v, u]).run P w = .ok r w ∧ SlotR P w St t (mxV false c d) r [] := by
  unfold mxC at hc
  split at hc
  · obtain rfl := slot_int h1; obtain rfl := slot_int h2
    refine ⟨_, ?_, mk_int _ _⟩
    simp [Builtin.min_, Builtin.min2]
  · exact hc.elim
theorem foldl_push (ns : List Int) : ∀ (s : ByteArray), ns.foldl (fun r n => r.push (UInt8.ofNat n.toNat)) s = ⟨(s.data.toList ++ ns.map fun n => UInt8.ofNat n.toNat).toArray⟩ := by
  induction ns with
  | nil => intro s; apply ByteArray.ext; simp
  | cons n ns ih =>
    intro s
    rw [List.foldl_cons, ih]
    apply ByteArray.ext
    simp [ByteArray.push]
theorem u8s : ∀ {cs : List V}, cs.all isU8 = true → ∃ ns : List Int, cs = ns.map (V.int .u8)
  | [], _ => ⟨[], rfl⟩
  | c :: cs, h => by
    simp only [List.all_cons, Bool.and_eq_true] at h
    obtain ⟨ns, rfl⟩ := u8s h.2
    have h1 := h.1
    cases c with
    | int k n =>
      cases k <;> first | exact ⟨n :: ns, rfl⟩ | cases h1
    | _ => cases h1
theorem rdl_u8 : ∀ {ns : List Int} {us : List Value}, RdL w St (ns.map (V.int .u8)) us → us = ns.map (Value.int .u8)
  | [], _, h => h
  | n :: ns, _, ⟨u, us', e, h1, h2⟩ => by rw [e, List.map_cons, rdl_u8 h2, show u = .int .u8 n from h1]
theorem convV_sl {z : List UInt8} {c : V} {n : Nat} {cs : List V} (h : slOf c = some (n, cs)) : convV (some (.sc (.str z))) c = .str (cs.map byteV) := by
  cases c <;> first | (simp only [convV, h]; done) | cases h
theorem conv_run {tb : Tb} (htb : TbOk P tb) {src dst : TypeId} {c : V} {v : Value} {b1 : List Nat} (h1 : SlotR P w St t c v b1) (hc : convC tb src dst c) :
    ∃ r, (convert src dst v).run P w = .ok r w ∧ SlotR P w St t (convV (tb dst) c) r [] := by
  unfold convC at hc
  split at hc
  · rename_i ds k z k' n hs hd
    obtain rfl := slot_int h1
    obtain ⟨us, hus⟩ := (htb _ _ hs).und
    have hud := (htb _ _ hd).int
    rw [hd]
    exact ⟨_, by simp [convert, run_underlying hus, run_underlying hud, Conv.intToInt], mk_int _ _⟩
  · rename_i e es eb ez z hs hd
    split at hc
    · rename_i n cs z' hsl he
      obtain ⟨hlen, hall⟩ := hc
      obtain ⟨ns, rfl⟩ := u8s hall
      obtain ⟨i, j, zv, _, _, _, hus, _⟩ := htb _ _ hs
      have hud := (htb _ _ hd).str
      have hue := (htb _ _ he).int
      have hrd := slot_slOf hsl h1
      obtain ⟨hn, A, cap, rfl, hcap, hrow, h0⟩ := hrd
      rw [List.length_map] at hlen
      rw [hd, convV_sl hsl]
      have hv : (ns.map (V.int .u8)).map byteV = ns.map fun n => UInt8.ofNat n.toNat := by simp [List.map_map, Function.comp_def, byteV]
      rw [hv]
      refine ⟨.string ⟨(ns.map fun n => UInt8.ofNat n.toNat).toArray⟩, ?_, mk_str (by simp; omega)⟩
      have hmain : (Conv.bytesToString (.slice A n cap)).run P w = .ok (.string ⟨(ns.map fun n => UInt8.ofNat n.toNat).toArray⟩) w := by
        cases A with
        | none =>
          have hz : n = 0 := by
            rcases Nat.eq_zero_or_pos n with h | h
            · exact h
            · obtain ⟨_, _, h, _⟩ := hrow h; cases h
          have : ns = [] := List.eq_nil_of_length_eq_zero (by omega)
          subst this
          rfl
        | some ad =>
          rcases Nat.eq_zero_or_pos n with h | h
          · subst h
            have : ns = [] := List.eq_nil_of_length_eq_zero hlen
            subst this
            have := run_bytesToString (P := P) w ad 0 cap [] (by simp [loadCells, loadCellsFrom])
            rw [this, foldl_push]
            simp
          · obtain ⟨b, off, e, hr⟩ := hrow h
            injection e with e
            subst e
            obtain ⟨us, h3, h4⟩ := hr.list
            have := rdl_u8 h3
            subst this
            have hl := run_loadCells_list (P := P) (w := w) ⟨b, off, none⟩ (ns.map (Value.int .u8)) (fun j v hv => by rw [add_plain]; exact h4 j v hv)
            rw [List.length_map, hlen] at hl
            rw [run_bytesToString (P := P) w _ n cap ns hl, foldl_push]
            simp
      simp only [convert, Sem.run_bind, run_underlying hus, run_underlying hud, Result.andThen_ok, run_underlying hue, hmain]
    · exact hc.elim
  · exact hc.elim
end

/-! ### slices that may be written -/
def iaS (σ : PS) (es : Nat) (x i : V) : V := match x with
  | .same s => match σ s, ixOf i with
    | .uni _ _ _, some i => .cref s (i.toNat * es)
    | _, _ => .undef
  | x => iaV es x i
def iaSC (σ : PS) (x i : V) : Prop := match x with
  | .same s => match σ s, ixOf i with
    | .uni _ n _, some i => 0 ≤ i ∧ i < n
    | _, _ => False
  | x => iaC x i
def lenS (σ : PS) (x : V) : V := match x with
  | .same s => match σ s with
    | .uni _ n _ => .int .i64 n
    | _ => .undef
  | x => lenV x
def lenSC (d : Option TyD) (σ : PS) (x : V) : Prop := match x with
  | .same s => match σ s, d with
    | .uni _ _ _, some (.sl ..) => True
    | _, _ => False
  | x => lenC d x
/-- what a move gives -/
def mvV (σ : PS) : Operand → V
  | .tmp s => match σ s with
    | .uni _ _ _ => .same s
    | .same b => .same b
    | c => dg c
  | x => dg (opV σ x)
def mvC (σ : PS) : Operand → Prop
  | .tmp s => match σ s with
    | .uni _ _ _ => True
    | .same _ => True
    | c => c.isVal = true
  | x => (opV σ x).isVal = true
section
variable {P : Program} {nt base : Nat} {bx : List Nat} {St : Nat → Nat → Prop} {B : Nat → List Nat} {hand : List Nat} {σ : PS} {a : Act} {w : World}
theorem same_uni (h : HSim P nt bx base St B hand σ a w) {s q : Nat} {e : TypeId} {n : Nat} {cs : List V} (hq : σ q = .same s) (hs : σ s = .uni e n cs) : ∃ g, tm a q = .slice (some ⟨g, 0, none⟩) n n ∧ tm a s = .slice (some ⟨g, 0, none⟩) n n := by
  have h1 := h.slot q
  have h2 := h.slot s
  rw [hq] at h1
  rw [hs] at h2
  obtain ⟨g, _, _, e1, _⟩ := h2
  exact ⟨g, by rw [h1.2, e1], e1⟩
theorem indexS_run (h : HSim P nt bx base St B hand σ a w) {ty e : TypeId} {es eb : Nat} {ez : List V} (hd : Agr P ty (.sl e es eb ez)) {s q : Nat} {e' : TypeId} {n : Nat} {cs : List V} (hq : σ q = .same s) (hs : σ s = .uni e' n cs) {d : V} {i : Int} {u : Value} {b2 : List Nat} (hi : ixOf d = some i) (h2 : SlotR P w St (tm a) d u b2) (hc : 0 ≤ i ∧ i < n) :
    ∃ r, (Instr.indexAt ty (tm a q) u).run P w = .ok r w ∧ SlotR P w St (tm a) (.cref s (i.toNat * es)) r [] := by
  obtain ⟨i', j, zv, _, _, _, hu, hj, _, hes, _⟩ := hd
  obtain ⟨g, e1, e2⟩ := same_uni h hq hs
  obtain ⟨k, rfl⟩ := slot_ix hi h2
  rw [e1]
  refine ⟨.pointer (some ⟨g, 0 + i.toNat * es, none⟩), ?_, rfl, g, by rw [e2]; rfl, by rw [Nat.zero_add]⟩
  simp [Instr.indexAt, asIntOf, run_underlying hu, hc, Go.sizeOf, typeInfo, hj, hes, add_plain]
theorem lenS_run (h : HSim P nt bx base St B hand σ a w) {ty rt e : TypeId} {es eb : Nat} {ez : List V} (hd : Agr P ty (.sl e es eb ez)) {s q : Nat} {e' : TypeId} {n : Nat} {cs : List V} (hq : σ q = .same s) (hs : σ s = .uni e' n cs) :
    ∃ r, (Builtin.len_ #[ty] rt #[tm a q]).run P w = .ok r w ∧ SlotR P w St (tm a) (.int .i64 n) r [] := by
  obtain ⟨i', j, zv, _, _, _, hu, hj, _, hes, _⟩ := hd
  obtain ⟨g, e1, e2⟩ := same_uni h hq hs
  rw [e1]
  exact ⟨_, by simp [Builtin.len_, run_underlying hu, goInt], mk_int _ _⟩
end
end Go.Proofs.Ytkmkbpphdalgoaa
