/-
  A map from pairs to numbers: the pairs that have come, numbered in their order.
-/
import Derived.Test.YtnphlekailodkaaGreatDoorPq
import Derived.MapKept
namespace Go.Proofs.YtnphlekailodkaaGreatDoor
open Go.RowKit Go.MapKept

def cEnt (p : Pe.Pair × Nat) : MapEntry := ⟨.agg (pCells p.1), .int .i64 (p.2 : Int), p.2⟩
def cEs (L : List Pe.Pair) : Array MapEntry := (L.zipIdx.map cEnt).toArray
/-- Block r is a map in which the pairs of L have their numbers. -/
def CMap (w : World) (r : Nat) (L : List Pe.Pair) : Prop := w.heap[r]? = some (.map (cEs L) L.length)
theorem CMap.lt {w : World} {r : Nat} {L : List Pe.Pair} (h : CMap w r L) : r < w.heap.size := (Array.getElem?_eq_some_iff.1 h).1
theorem CMap.of_heap {w w' : World} {r : Nat} {L : List Pe.Pair} (h : CMap w r L) (he : w'.heap[r]? = w.heap[r]?) : CMap w' r L := he.trans h
theorem CMap.below {w w' : World} {r : Nat} {L : List Pe.Pair} (h : CMap w r L) (hb : Below w.heap.size w w') : CMap w' r L := (hb.block r h.lt).trans h
/-- Where a pair stands in a list, counted from s. -/
def numOf (c : Pe.Pair) : List Pe.Pair → Nat → Option Nat
  | [], _ => none
  | y :: r, s => if c = y then some s else numOf c r (s + 1)
theorem numOf_eq (c : Pe.Pair) : ∀ (L : List Pe.Pair) (s : Nat), numOf c L s = (L.findIdx? (· == c)).map (· + s)
  | [], s => rfl
  | y :: r, s => by
    rw [numOf, List.findIdx?_cons]
    by_cases h : c = y
    · subst h; simp
    · have h2 : (y == c) = false := by simp; exact fun e => h e.symm
      rw [if_neg h, h2, numOf_eq c r (s + 1)]
      simp only [Bool.false_eq_true, if_false, Option.map_map]
      congr 1
      funext q
      simp only [Function.comp]
      omega
theorem run_findAsking (w : World) (c : Pe.Pair) : ∀ (L : List Pe.Pair) (s : Nat), (Instr.findAsking 28 (.agg (pCells c)) ((L.zipIdx s).map cEnt) s).run Tryz.prog w = .ok ((numOf c L s).map fun i => (i, .int .i64 (i : Int))) w
  | [], s => rfl
  | y :: r, s => by
    have ih := run_findAsking w c r (s + 1)
    have he : (Op.equal 28 (.agg (pCells c)) (.agg (pCells y))).run Tryz.prog w = .ok (decide (c = y)) w := equal_pair c y w
    simp only [List.zipIdx_cons, List.map_cons, cEnt, Instr.findAsking, Sem.run_bind, he, Result.andThen]
    by_cases h : c = y
    · subst h
      simp [numOf]
    · simp only [numOf, if_neg h]
      rw [show decide (c = y) = false by simpa using h]
      simp only [Bool.false_eq_true, if_false]
      exact ih
theorem run_findKey_c (w : World) (c : Pe.Pair) (L : List Pe.Pair) : (Instr.findKey 28 (.agg (pCells c)) (cEs L).toList).run Tryz.prog w = .ok ((numOf c L 0).map fun i => (i, .int .i64 (i : Int))) w := by
  have hu := run_underlying (P := Tryz.prog) (w := w) Tryz.underlying28
  unfold Instr.findKey cEs
  cases L with
  | nil => simp [hu, Result.andThen, Instr.findNow, numOf]
  | cons y r =>
    have h := run_findAsking w c (y :: r) 0
    simp only [Sem.run_bind, hu, Result.andThen]
    simp only [List.zipIdx_cons, List.map_cons, cEnt, Instr.findNow, Instr.sameNow] at h ⊢
    exact h
theorem run_checkKey_c (w : World) (em : Bool) (c : Pe.Pair) : (Instr.checkKey em 10000 28 (.agg (pCells c))).run Tryz.prog w = .ok () w := by
  cases em <;> kernel_rfl
theorem run_lookup_c {w : World} {r : Nat} {L : List Pe.Pair} (h : CMap w r L) (c : Pe.Pair) : (Instr.lookup 68 (.map (some r)) (.agg (pCells c)) true).run Tryz.prog w = .ok (.tuple #[.int .i64 (((numOf c L 0).getD 0 : Nat) : Int), .bool (numOf c L 0).isSome]) w := by
  have hz : (zeroValue 3).run Tryz.prog w = .ok (.int .i64 0) w := by kernel_rfl
  have hf := run_findKey_c w c L
  have hk := fun em => run_checkKey_c w em c
  cases hn : numOf c L 0 with
  | none =>
    rw [hn] at hf
    simp [Instr.lookup, run_underlying Tryz.underlying68, MapKept.run_getObj_map h, hk, hf, hz, Result.andThen]
  | some i =>
    rw [hn] at hf
    simp [Instr.lookup, run_underlying Tryz.underlying68, MapKept.run_getObj_map h, hk, hf, Result.andThen]
theorem run_insert_c {w : World} {r : Nat} {L : List Pe.Pair} (h : CMap w r L) (c : Pe.Pair) (hn : c ∉ L) : ∃ w', (Instr.mapUpdate 68 (.map (some r)) (.agg (pCells c)) (.int .i64 (L.length : Int))).run Tryz.prog w = .ok () w' ∧ CMap w' r (L ++ [c]) ∧ Chg (fun i => i = r) w w' ∧ w.grownBy w' (some r) := by
  have hf := run_findKey_c w c L
  have hk := run_checkKey_c w false c
  have hno : numOf c L 0 = none := by
    rw [numOf_eq]
    have : L.findIdx? (· == c) = none := by
      rw [List.findIdx?_eq_none_iff]
      intro y hy
      simp only [beq_eq_false_iff_ne]
      rintro rfl
      exact hn hy
    rw [this]; rfl
  rw [hno] at hf
  have he : (cEs L).push { key := .agg (pCells c), val := .int .i64 (L.length : Int), born := L.length } = cEs (L ++ [c]) := by
    unfold cEs
    rw [List.zipIdx_append]
    simp [cEnt]
  refine ⟨{ w with heap := w.heap.setIfInBounds r (.map (cEs (L ++ [c])) (L.length + 1)) }, ?_, ?_, ⟨rfl, rfl, rfl, by simp, fun i _ hi => (heap_set h).2 i hi⟩, ⟨rfl, rfl, rfl, by simp, fun i _ hi => (heap_set h).2 i (fun e => hi (by rw [e]))⟩⟩
  · rw [← he]
    simp [Instr.mapUpdate, run_underlying Tryz.underlying68, MapKept.run_getObj_map h, hk, hf, MapKept.run_setObj_map _ h, Result.andThen]
  · have := (heap_set (o' := .map (cEs (L ++ [c])) (L.length + 1)) h).1
    unfold CMap
    rw [List.length_append]
    exact this

end Go.Proofs.YtnphlekailodkaaGreatDoor
