/-
  The contracts of the laws' helpers (to, eq, sz, mark, held) in one form, for the laws' own walks: IntS and Relation. Conditions: as each says.
-/
import Derived.Test.YtnijkpbecgifjaaRelS
namespace Go.Proofs.Ytnijkpbecgifjaa
open Go.RowKit

/-! ### IntS -/
def bulk_IntS (l : List Int) : Nat := l.length
def cnt_IntS (l : List Int) : Nat := l.length
def mk_IntS (k : Int) (l : List Int) : List Int := marks k l
def RetTo_IntS (w : World) (l : List Int) (e : Ending) (w' : World) : Prop := ∃ v, e = .returned v ∧ OwInts 3 w' (Iv w w') v l ∧ Below w.heap.size w w'
theorem sz_IntS {w : World} {v : Value} {l : List Int} {k : Int} (h : Ints w v l) (h0 : 0 ≤ k) (h1 : k ≤ 1048576) :
    Calls Try.prog 39 #[v, .int .i64 k] w fun e w' => e = .returned (.int .i64 (szS k (bulk_IntS l))) ∧ Below w.heap.size w w' :=
  (szIntS_c v l k w h h0 h1).mono fun _ _ ⟨he, hw⟩ => ⟨he, hw ▸ Below.refl _ _⟩
theorem to_IntS {w : World} {v : Value} {l : List Int} (h : Ints w v l) (hb : bulk_IntS l ≤ 1048576) : Calls Try.prog 12 #[v] w (RetTo_IntS w l) :=
  (toIntS_c v l w h (by unfold bulk_IntS at hb; omega)).mono fun _ _ ⟨v', he, ho, hb⟩ => ⟨v', he, OwInts.of_own ho, hb⟩
theorem eq_IntS {w : World} {va vb : Value} {a b : List Int} (ha : Ints w va a) (hb : Ints w vb b) :
    Calls Try.prog 15 #[va, vb] w fun e w' => e = .returned (.bool (a == b)) ∧ Below w.heap.size w w' :=
  (eqIntS_c va vb a b w ha hb).mono fun _ _ ⟨he, hs⟩ => ⟨he, hs.below _⟩
theorem mark_IntS {w : World} {S : Nat → Prop} {v : Value} {l : List Int} {k : Int} (h : OwInts 3 w S v l) (h0 : 0 ≤ k) (h1 : k + cnt_IntS l ≤ 1099511627776) :
    Calls Try.prog 16 #[v, .int .i64 k] w fun e w' => e = .returned (.int .i64 (k + cnt_IntS l)) ∧ OwInts 3 w' S v (mk_IntS k l) ∧ FrS S w w' :=
  (markIntS_c v l k 0 w h.1 h0 (by omega) (by unfold cnt_IntS at h1; omega)).mono fun _ _ ⟨he, ho, hg⟩ => ⟨he, ⟨by unfold mk_IntS; rw [marks_length]; exact ho, h.2⟩, FrS.grown hg h.2⟩
theorem held_IntS {w : World} {v : Value} {l : List Int} {k : Int} (h : Ints w v (mk_IntS k l)) (h0 : 0 ≤ k) (h1 : k + cnt_IntS l ≤ 1099511627776) :
    Calls Try.prog 32 #[v, .int .i64 k] w fun e w' => e = .returned (.int .i64 (k + cnt_IntS l)) ∧ Below w.heap.size w w' :=
  (heldIntS_c v l k w h h0 (by unfold cnt_IntS at h1; omega)).mono fun _ _ ⟨he, hw⟩ => ⟨he, hw ▸ Below.refl _ _⟩

theorem cnt_le_IntS (l : List Int) : cnt_IntS l ≤ bulk_IntS l := Nat.le_refl _

/-! ### Relation -/
def bulk_Relation (ll : List (List Int)) : Nat := bulk2 ll
def cnt_Relation (ll : List (List Int)) : Nat := tot2 ll
def mk_Relation (k : Int) (ll : List (List Int)) : List (List Int) := marks2 k ll
def RetTo_Relation (w : World) (ar : Int) (ll : List (List Int)) (e : Ending) (w' : World) : Prop := ∃ v, e = .returned (.agg #[.int .i64 ar, v]) ∧ OwRows2 3 24 w' (Iv w w') v ll ∧ Below w.heap.size w w'
theorem sz_Relation {w : World} {ar : Int} {v : Value} {ll : List (List Int)} {k : Int} (h : Rows2 w v ll) (h0 : 0 ≤ k) (h1 : k ≤ 1048576) :
    Calls Try.prog 24 #[.agg #[.int .i64 ar, v], .int .i64 k] w fun e w' => e = .returned (.int .i64 (szS k (bulk_Relation ll))) ∧ Below w.heap.size w w' := szRelation_c v ar ll k w h h0 h1
theorem short_of_bulk {ll : List (List Int)} (h : bulk_Relation ll ≤ 1048576) : ll.length ≤ 1048576 ∧ ∀ l ∈ ll, l.length ≤ 1048576 := by
  unfold bulk_Relation bulk2 at h
  exact ⟨by omega, fun l hl => by have := len_le_tot2 ll hl; omega⟩
theorem to_Relation {w : World} {ar : Int} {v : Value} {ll : List (List Int)} (h : Rows2 w v ll) (hb : bulk_Relation ll ≤ 1048576) : Calls Try.prog 26 #[.agg #[.int .i64 ar, v]] w (RetTo_Relation w ar ll) :=
  (toRelation_c v ar ll w h (short_of_bulk hb).1 (short_of_bulk hb).2).mono fun _ _ ⟨v', he, ho, hb⟩ => ⟨v', he, OwRows2.of_own ho, hb⟩
theorem eq_Relation {w : World} {x y : Int} {va vb : Value} {a b : List (List Int)} (ha : Rows2 w va a) (hb : Rows2 w vb b) :
    Calls Try.prog 14 #[.agg #[.int .i64 x, va], .agg #[.int .i64 y, vb]] w fun e w' => e = .returned (.bool (x == y && a == b)) ∧ Below w.heap.size w w' := eqRelation_c va vb x y a b w ha hb
theorem mark_Relation {w : World} {S : Nat → Prop} {ar : Int} {v : Value} {ll : List (List Int)} {k : Int} (h : OwRows2 3 24 w S v ll) (h0 : 0 ≤ k) (h1 : k + cnt_Relation ll ≤ 1099511627776) :
    Calls Try.prog 17 #[.agg #[.int .i64 ar, v], .int .i64 k] w fun e w' => e = .returned (.int .i64 (k + cnt_Relation ll)) ∧ OwRows2 3 24 w' S v (mk_Relation k ll) ∧ FrS S w w' := by
  obtain ⟨vs, h2, h3, h4, h5⟩ := h
  have hn : ll.length ≤ 9223372036854775807 := by
    obtain ⟨_, _, _, h, _⟩ := RowAt.of_own h2
    exact h
  exact (markRelation_c v ar vs ll k 0 S w h2 h3 h5 h0 h1 hn).mono fun _ _ ⟨he, ho, ho2, hf⟩ => ⟨he, ⟨vs, by unfold mk_Relation; rw [marks2_length]; exact ho, ho2, h4, h5⟩, hf⟩
theorem held_Relation {w : World} {ar : Int} {v : Value} {ll : List (List Int)} {k : Int} (h : Rows2 w v (mk_Relation k ll)) (h0 : 0 ≤ k) (h1 : k + cnt_Relation ll ≤ 1099511627776) :
    Calls Try.prog 18 #[.agg #[.int .i64 ar, v], .int .i64 k] w fun e w' => e = .returned (.int .i64 (k + cnt_Relation ll)) ∧ Below w.heap.size w w' := heldRelation_c v ar ll k w h h0 h1

theorem cnt_le_Relation (ll : List (List Int)) : cnt_Relation ll ≤ bulk_Relation ll := by unfold cnt_Relation bulk_Relation bulk2; omega

end Go.Proofs.Ytnijkpbecgifjaa
