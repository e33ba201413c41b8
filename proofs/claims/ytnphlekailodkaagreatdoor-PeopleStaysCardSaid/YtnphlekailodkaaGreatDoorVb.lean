/-
  The verbs: a map of words and functions.
-/
import Derived.Test.YtnphlekailodkaaGreatDoorPa
import Derived.MapKept
namespace Go.Proofs.YtnphlekailodkaaGreatDoor
open Go.RowKit Go.MapKept

namespace Pe
/-- The word of a kind. -/
def word : Nat → List UInt8
  | 1 => [110, 97, 109, 101]
  | 2 => [108, 105, 118, 101]
  | 3 => [100, 101, 97, 116, 104]
  | 4 => [104, 101, 105, 114]
  | 5 => [114, 101, 100, 105, 114, 101, 99, 116]
  | 6 => [99, 97, 110, 99, 101, 108]
  | 7 => [114, 101, 102, 117, 115, 101]
  | _ => []
end Pe
def verbFn : Nat → Nat
  | 1 => 139
  | 2 => 140
  | 3 => 141
  | 4 => 142
  | 5 => 143
  | 6 => 144
  | _ => 145
def vVal (k : Nat) : Value := .agg #[.string (bs (Pe.word k)), .func (.func (verbFn k)) #[] #[]]
def vEnt (k : Nat) : MapEntry := ⟨.int .u8 k, vVal k, k - 1⟩
def vEs : Nat → Array MapEntry
  | 0 => #[]
  | k + 1 => (vEs k).push (vEnt (k + 1))
def MapAt (w : World) (r k : Nat) : Prop := w.heap[r]? = some (.map (vEs k) k)
theorem vEs_toList (k : Nat) : (vEs k).toList = (List.range k).map fun i => vEnt (i + 1) := by
  induction k with
  | zero => rfl
  | succ k ih => rw [vEs, Array.toList_push, ih, List.range_succ, List.map_append]; rfl
theorem findNow_verbs (x : Nat) : ∀ (l : List Nat) (i : Nat), x ∉ l.map (· + 1) → Instr.findNow (.int .u8) (.int .u8 (x : Int)) (l.map fun i => vEnt (i + 1)) i = some none
  | [], i, _ => rfl
  | k :: r, i, h => by
    have h1 : ((x : Int) == ((k + 1 : Nat) : Int)) = false := by
      simp only [List.map_cons, List.mem_cons, not_or] at h
      simp; omega
    have h2 := findNow_verbs x r (i + 1) (fun hh => h (by simp only [List.map_cons, List.mem_cons]; exact .inr hh))
    simp only [List.map_cons, Instr.findNow, vEnt, Instr.sameNow, if_true, h1] at h2 ⊢
    exact h2
theorem run_insert_verb {w : World} {r k : Nat} (h : MapAt w r k) : ∃ w', (Instr.mapUpdate 136 (.map (some r)) (.int .u8 ((k + 1 : Nat) : Int)) (vVal (k + 1))).run Tryz.prog w = .ok () w' ∧ MapAt w' r (k + 1) ∧ Chg (fun i => i = r) w w' := by
  have hf : Instr.findNow (.int .u8) (.int .u8 ((k + 1 : Nat) : Int)) (vEs k).toList 0 = some none := by
    rw [vEs_toList]
    exact findNow_verbs _ _ 0 (by simp)
  have hk : IsKey (.int .u8) (.int .u8 ((k + 1 : Nat) : Int)) := by simp [IsKey]
  refine ⟨{ w with heap := w.heap.setIfInBounds r (.map (vEs (k + 1)) (k + 1)) }, ?_, (heap_set h).1, ⟨rfl, rfl, rfl, by simp, fun i _ hi => (heap_set h).2 i hi⟩⟩
  have he : (vEs k).push { key := .int .u8 ((k + 1 : Nat) : Int), val := vVal (k + 1), born := k } = vEs (k + 1) := rfl
  rw [← he]
  generalize ((k + 1 : Nat) : Int) = z at hf hk
  simp [Instr.mapUpdate, run_underlying Tryz.underlying136, MapKept.run_getObj_map h, MapKept.run_checkKey Tryz.underlying5 hk, MapKept.run_findKey Tryz.underlying5 hf, MapKept.run_setObj_map _ h, Result.andThen]
theorem run_insert_verb' {w : World} {r k : Nat} (k' : Nat) (z : Int) (h : MapAt w r k) (hk : k' = k + 1) (hz : z = (k' : Int)) : ∃ w', (Instr.mapUpdate 136 (.map (some r)) (.int .u8 z) (vVal k')).run Tryz.prog w = .ok () w' ∧ MapAt w' r k' ∧ Chg (fun i => i = r) w w' := by
  subst hz hk
  exact run_insert_verb h
theorem MapAt.alloc {w : World} {r k : Nat} (h : MapAt w r k) (o : Obj) : MapAt (w.alloc o) r k :=
  ((heap_alloc w o).2 r (Array.getElem?_eq_some_iff.1 h).1).trans h
theorem MapAt.drew {w : World} {r k : Nat} (h : MapAt w r k) : MapAt w.drew r k := h
theorem MapAt.below {w w' : World} {r k : Nat} (h : MapAt w r k) (hb : Below w.heap.size w w') : MapAt w' r k :=
  (hb.block r (Array.getElem?_eq_some_iff.1 h).1).trans h
theorem run_lookup_verb {w : World} {r : Nat} (h : MapAt w r 7) (k : Nat) (h1 : 1 ≤ k) (h7 : k ≤ 7) : (Instr.lookup 136 (.map (some r)) (.int .u8 (k : Int)) false).run Tryz.prog w = .ok (vVal k) w := by
  have hk : IsKey (.int .u8) (.int .u8 (k : Int)) := by simp [IsKey]
  have hf : ∃ i, Instr.findNow (.int .u8) (.int .u8 (k : Int)) (vEs 7).toList 0 = some (some (i, vVal k)) := by
    obtain rfl | rfl | rfl | rfl | rfl | rfl | rfl : k = 1 ∨ k = 2 ∨ k = 3 ∨ k = 4 ∨ k = 5 ∨ k = 6 ∨ k = 7 := by omega
    · exact ⟨0, rfl⟩
    · exact ⟨1, rfl⟩
    · exact ⟨2, rfl⟩
    · exact ⟨3, rfl⟩
    · exact ⟨4, rfl⟩
    · exact ⟨5, rfl⟩
    · exact ⟨6, rfl⟩
  obtain ⟨i, hf⟩ := hf
  generalize (k : Int) = z at hf hk
  simp [Instr.lookup, run_underlying Tryz.underlying136, MapKept.run_getObj_map h, MapKept.run_checkKey Tryz.underlying5 hk, MapKept.run_findKey Tryz.underlying5 hf, Result.andThen]

set_option maxRecDepth 1000000 in
set_option maxHeartbeats 4000000 in
theorem verbs_calls (w : World) : Calls Tryz.prog 110 #[] w fun e w' => ∃ b, e = .returned (.map (some b)) ∧ w.heap.size ≤ b ∧ MapAt w' b 7 ∧ Below w.heap.size w w' := by
  have hmm := @run_makeMap Tryz.prog
  have h0 : MapAt (w.alloc (.map #[] 0)) w.heap.size 0 := (heap_alloc w _).1
  obtain ⟨w1, r1, m1, b1⟩ := run_insert_verb' 1 1 h0 rfl rfl
  obtain ⟨w2, r2, m2, b2⟩ := run_insert_verb' 2 2 m1 rfl rfl
  obtain ⟨w3, r3, m3, b3⟩ := run_insert_verb' 3 3 m2 rfl rfl
  obtain ⟨w4, r4, m4, b4⟩ := run_insert_verb' 4 4 m3 rfl rfl
  obtain ⟨w5, r5, m5, b5⟩ := run_insert_verb' 5 5 m4 rfl rfl
  obtain ⟨w6, r6, m6, b6⟩ := run_insert_verb' 6 6 m5 rfl rfl
  obtain ⟨w7, r7, m7, b7⟩ := run_insert_verb' 7 7 m6 rfl rfl
  have hb : Below w.heap.size w w7 := ((((((((Chg.refl (fun i => w.heap.size ≤ i) w).alloc (.map #[] 0)).trans b1 (fun i h => .inl (by omega))).trans b2 (fun i h => .inl (by omega))).trans b3 (fun i h => .inl (by omega))).trans b4 (fun i h => .inl (by omega))).trans b5 (fun i h => .inl (by omega))).trans b6 (fun i h => .inl (by omega))).trans b7 (fun i h => .inl (by omega)) |>.below (fun _ h => h) (Nat.le_refl _)
  have H := Lib.hid (And.intro m7 hb)
  clear h0 m1 m2 m3 m4 m5 m6 m7 b1 b2 b3 b4 b5 b6 b7 hb
  unfold vVal bs Pe.word verbFn at r1 r2 r3 r4 r5 r6 r7
  go_enter Tryz.func110, Tryz.ntmps110
  go_wp2
  go_ret
  exact ⟨_, rfl, Nat.le_refl _, H.out⟩

end Go.Proofs.YtnphlekailodkaaGreatDoor
