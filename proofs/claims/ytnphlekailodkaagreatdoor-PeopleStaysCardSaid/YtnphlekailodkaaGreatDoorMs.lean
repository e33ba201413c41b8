/-
  Sets in memory: a map from numbers to bools, as the set of the numbers at which it is true.
-/
import Derived.Maps.OwnSet
import Derived.Maps.Views
import Derived.WalkKit
import Derived.Deep.DeepCutAuto
namespace Go.Proofs.YtnphlekailodkaaGreatDoor
open Go.RowKit Go.Maps

section
variable {P : Program} {ki kb tm : TypeId}

/-- Block b is a map of at most n entries; true at the numbers of S alone. -/
def SetAt (P : Program) (ki kb : TypeId) (w : World) (b n : Nat) (S : Int → Bool) : Prop :=
  ∃ D : DataW Unit, w.ownsMap P ki (plainElem P kb) b n D ∧ ∀ x, (Lit.int .i64 x).wf = true → D.atKey (.int .i64 x) (.lit (.bool false)) = .lit (.bool (S x))

theorem plainElem_bool_inv {H : Type} {e : TypeId} (he : P.underlying e = some .bool) {v : Value} {z : DataW H × List MemPlace} (h : plainElem P e v = some z) : ∃ x, v = .bool x ∧ z = (.lit (.bool x), []) := by
  unfold plainElem at h
  rw [he] at h
  cases v <;> simp at h
  exact ⟨_, rfl, h.symm⟩

theorem SetAt.made (w : World) : SetAt P ki kb (w.alloc (.map #[] 0)) w.heap.size 0 (fun _ => false) :=
  ⟨.map [], World.ownsMap_made w P ki _, fun _ _ => rfl⟩
theorem SetAt.lt {w : World} {b n : Nat} {S : Int → Bool} (h : SetAt P ki kb w b n S) : b < w.heap.size := by
  obtain ⟨D, h1, _⟩ := h
  exact h1.lt
theorem SetAt.kept {w w' : World} {row : Option Nat} {b n : Nat} {S : Int → Bool} (h : SetAt P ki kb w b n S) (hg : w.grownBy w' row) (hne : some b ≠ row) : SetAt P ki kb w' b n S := by
  obtain ⟨D, h1, h2⟩ := h
  exact ⟨D, h1.kept hg hne, h2⟩
theorem SetAt.alloc {w : World} {b n : Nat} {S : Int → Bool} (h : SetAt P ki kb w b n S) (o : Obj) : SetAt P ki kb (w.alloc o) b n S := by
  obtain ⟨D, h1, h2⟩ := h
  exact ⟨D, h1.alloc o, h2⟩
theorem SetAt.drew {w : World} {b n : Nat} {S : Int → Bool} (h : SetAt P ki kb w b n S) : SetAt P ki kb w.drew b n S := h
theorem SetAt.setCell {w : World} {b n : Nat} {S : Int → Bool} (h : SetAt P ki kb w b n S) {a : Addr} (ha : b ≠ a.block) (u : Value) : SetAt P ki kb (w.setCell a u) b n S := by
  obtain ⟨D, h1, h2⟩ := h
  exact ⟨D, h1.setCell ha u, h2⟩
theorem SetAt.of_heap {w w' : World} {b n : Nat} {S : Int → Bool} (h : SetAt P ki kb w b n S) (he : w'.heap[b]? = w.heap[b]?) : SetAt P ki kb w' b n S := by
  obtain ⟨D, ⟨es, clock, hb, F, hs, hD⟩, h2⟩ := h
  exact ⟨D, ⟨es, clock, he.trans hb, F, hs, hD⟩, h2⟩
theorem SetAt.mono {w : World} {b n n' : Nat} {S : Int → Bool} (h : SetAt P ki kb w b n S) (hn : n ≤ n') : SetAt P ki kb w b n' S := by
  obtain ⟨D, h1, h2⟩ := h
  exact ⟨D, h1.mono hn, h2⟩
theorem SetAt.congr {w : World} {b n : Nat} {S T : Int → Bool} (h : SetAt P ki kb w b n S) (he : ∀ x, S x = T x) : SetAt P ki kb w b n T := by
  obtain ⟨D, h1, h2⟩ := h
  exact ⟨D, h1, fun x hx => by rw [h2 x hx, he]⟩

variable (w : World) {ops : Array Oper} {rest : List Oper} {o : Oper} {a : Act} {Q : Exit → Act → World → Prop}

theorem run_lookup_set (hi : P.underlying ki = some (.int .i64)) (hb : P.underlying kb = some .bool) (ht : P.underlying tm = some (.map ki kb)) (hz : (zeroValue kb).run P w = .ok (.bool false) w) {b n : Nat} {S : Int → Bool} (h : SetAt P ki kb w b n S) (x : Int) (hx : (Lit.int .i64 x).wf = true) :
    (Instr.lookup tm (.map (some b)) (.int .i64 x) false).run P w = .ok (.bool (S x)) w := by
  obtain ⟨D, h1, h2⟩ := h
  obtain ⟨v, ps, hrun, hv⟩ := h1.lookup (int_keyed hi) ht hz (plainElem_bool hb false) (keyOf_int_mk hi hx)
  obtain ⟨y, rfl, hy⟩ := plainElem_bool_inv hb hv
  rw [h2 x hx] at hy
  simp only [Prod.mk.injEq, DataW.lit.injEq, Lit.bool.injEq] at hy
  rw [hrun, hy.1]
theorem run_store_set (hi : P.underlying ki = some (.int .i64)) (hb : P.underlying kb = some .bool) (ht : P.underlying tm = some (.map ki kb)) {b n : Nat} {S : Int → Bool} (h : SetAt P ki kb w b n S) (hn : n < maxLen) (x : Int) (hx : (Lit.int .i64 x).wf = true) :
    ∃ w', (Instr.mapUpdate tm (.map (some b)) (.int .i64 x) (.bool true)).run P w = .ok () w' ∧ SetAt P ki kb w' b (n + 1) (fun y => y == x || S y) ∧ w.grownBy w' (some b) := by
  obtain ⟨D, h1, h2⟩ := h
  obtain ⟨w', hrun, h3, h4⟩ := h1.update (int_keyed hi) ht hn (keyOf_int_mk hi hx) (plainElem_bool hb true)
  refine ⟨w', hrun, ⟨_, h3, fun y hy => ?_⟩, h4⟩
  by_cases hxy : y = x
  · subst hxy
    rw [atKey_put_same h1.isMap (by simp [WideAt.IsKeyLit])]
    simp
  · rw [atKey_put_other (by intro e; cases e; exact hxy rfl), h2 y hy]
    have : (y == x) = false := by simpa using hxy
    simp [this]
theorem wpList_store_set (hg : o.guard = none) (m x v : Operand) (hop : o.op = Op.mapUpdate tm m x v) (hi : P.underlying ki = some (.int .i64)) (hb : P.underlying kb = some .bool) (ht : P.underlying tm = some (.map ki kb)) (b n : Nat) (S : Int → Bool)
    (hm : a.eval m = .map (some b)) (hown : SetAt P ki kb w b n S) (hn : n < maxLen) (y : Int) (hx : a.eval x = .int .i64 y) (hv : a.eval v = .bool true) (hy : (Lit.int .i64 y).wf = true)
    (hK : ∀ w', SetAt P ki kb w' b (n + 1) (fun z => z == y || S z) → w.grownBy w' (some b) → wpList P ops Q rest (a.put o.dst undef) w') : wpList P ops Q (o :: rest) a w := by
  refine wpList_plain hg fun K' hK' => ?_
  obtain ⟨w', hrun, r1, r2⟩ := run_store_set w hi hb ht hown hn y hy
  unfold Oper.wp
  simp [execOp, hop, hm, hx, hv, hrun, Result.andThen]
  exact hK' _ _ (hK w' r1 r2)
end

end Go.Proofs.YtnphlekailodkaaGreatDoor
