/-
  Pairs compared and sorted.
-/
import Derived.Test.YtnphlekailodkaaGreatDoorPq
import Derived.Test.YtnphlekailodkaaGreatDoorOrd
import Derived.Shelf.SlSortCmp.NoneTotal
import Derived.Shelf.SlicesQ.Contains
import Derived.Shelf.SlGeneric
import Derived.Shelf.SlicesG.Cmp
import Derived.Test.YtnphlekailodkaaGreatDoorSh
import Derived.Ground.SlsfProg
import Derived.Ground.SlgcProg
import Derived.Ground.SlgqProg
namespace Go.Proofs
open Go.Shelf Go.RowKit Go.Lib Go.Sort
namespace YtnphlekailodkaaGreatDoor

set_option maxHeartbeats 1000000 in
theorem Or_calls (g : Nat) (a b : Int) (w : World) (hB : Blk w g 3 #[.int .i64 a, .int .i64 b]) : Calls Tryz.prog 96 #[.slice (some ⟨g, 0, none⟩) 2 2] w fun e w' => e = .returned (.int .i64 (if a = 0 then b else a)) ∧ w = w' := by
  have c0 : w.cell? ⟨g, 0, none⟩ = some (.int .i64 a) := hB.cell 0
  have c1 : w.cell? ⟨g, 1, none⟩ = some (.int .i64 b) := hB.cell 1
  obtain ⟨R, hR⟩ : ∃ R, R = if a = 0 then b else a := ⟨_, rfl⟩
  rw [← hR]
  have HR := Lib.hid hR
  clear hR hB
  go_enter Tryz.func96, Tryz.ntmps96
  go_wp2_with fail
  by_cases h0 : a = 0
  · have q0 : (a != 0) = false := by simp [h0]
    have H0 := Lib.hid h0
    clear h0
    by_cases h1 : b = 0
    · have q1 : (b != 0) = false := by simp [h1]
      have H1 := Lib.hid h1
      clear h1
      refine wp_loop_rounds 3 ?_
      rw [rounds_succ]
      go_wp2
      rw [rounds_succ]
      go_wp2
      rw [rounds_succ]
      go_wp2
      go_ret
      exact ⟨by rw [HR.out, if_pos H0.out, H1.out]; rfl, rfl⟩
    · have q1 : (b != 0) = true := by simp [h1]
      have H1 := Lib.hid h1
      clear h1
      refine wp_loop_rounds 3 ?_
      rw [rounds_succ]
      go_wp2
      rw [rounds_succ]
      go_wp2
      go_ret
      exact ⟨by rw [HR.out, if_pos H0.out]; rfl, rfl⟩
  · have q0 : (a != 0) = true := by simp [h0]
    have H0 := Lib.hid h0
    clear h0
    refine wp_loop_rounds 3 ?_
    rw [rounds_succ]
    go_wp2
    go_ret
    exact ⟨by rw [HR.out, if_neg H0.out]; rfl, rfl⟩

/-- Pairs compared by their persons, then by their places. -/
def cmpP (a b : Pe.Pair) : Int := if Lib.compareInt a.1 b.1 = 0 then Lib.compareInt a.2 b.2 else Lib.compareInt a.1 b.1
theorem Compare_calls (x y : Int) (w : World) : Calls Tryz.prog 97 #[.int .i64 x, .int .i64 y] w fun e w' => e = .returned (.int .i64 (Lib.compareInt x y)) ∧ w' = w := AnyG.cmp_Compare_int laysCmp x y w

set_option maxRecDepth 1000000 in
set_option maxHeartbeats 4000000 in
theorem comparePairs_calls (a b : Pe.Pair) (W : World) : Calls Tryz.prog 65 #[.agg (pCells a), .agg (pCells b)] W fun e w' => e = .returned (.int .i64 (cmpP a b)) ∧ ∃ q os', w' = grow (W.drewN q) os' := by
  obtain ⟨x, hx⟩ : ∃ x, x = Lib.compareInt a.1 b.1 := ⟨_, rfl⟩
  obtain ⟨y, hy⟩ : ∃ y, y = Lib.compareInt a.2 b.2 := ⟨_, rfl⟩
  have h1 := fun w => Compare_calls a.1 b.1 w
  have h2 := fun w => Compare_calls a.2 b.2 w
  unfold cmpP
  rw [← hx] at h1 ⊢
  rw [← hy] at h2 ⊢
  obtain ⟨z, hz⟩ : ∃ z, z = if x = 0 then y else x := ⟨_, rfl⟩
  have h3 := fun g W hB => Or_calls g x y W hB
  rw [← hz] at h3 ⊢
  have H := Lib.hid (And.intro h1 (And.intro h2 h3))
  clear h1 h2 h3 hx hy hz
  go_enter Tryz.func65, Tryz.ntmps65
  unfold pCells
  go_wp2_with fail
  obtain ⟨w1, hw1⟩ : ∃ w1, w1 = (W.alloc (.cells (pCells a) 28)).alloc (.cells (pCells b) 28) := ⟨_, rfl⟩
  obtain ⟨g, hg⟩ : ∃ g, g = W.heap.size := ⟨_, rfl⟩
  have hA : Blk w1 g 28 (pCells a) := by rw [hw1, hg]; exact (Blk.fresh W _ _).alloc _
  have hB : Blk w1 (g + 1) 28 (pCells b) := by rw [hw1, hg]; have := Blk.fresh (W.alloc (.cells (pCells a) 28)) 28 (pCells b); simpa using this
  have hG : w1 = grow W #[.cells (pCells a) 28, .cells (pCells b) 28] := by rw [hw1, alloc_eq_grow, alloc_eq_grow, grow_grow]; rfl
  unfold pCells at hw1
  rw [← hw1, ← hg]
  have HB := Lib.hid (And.intro hA (And.intro hB (And.intro hG hg)))
  clear hA hB hG hw1 hg
  refine wp_region_R (RL [(1, fun w' => Blk w' g 28 (pCells a)), (3, fun w' => Blk w' (g + 1) 28 (pCells b)), (6, fun w' => Blk w' g 28 (pCells a)), (8, fun w' => Blk w' (g + 1) 28 (pCells b))]) (by kernel_rfl) (RL_cons (HB.out.1.heap rfl) (RL_cons (HB.out.2.1.heap rfl) (RL_cons (HB.out.1.heap rfl) (RL_cons (HB.out.2.1.heap rfl) (RL_nil _))))) (fun hp => ?_)
  have hS1 : Blk w1.drew g 28 (pCells a) := HB.out.1.drew
  have hS3 : Blk w1.drew (g + 1) 28 (pCells b) := HB.out.2.1.drew
  have hS6 := hS1
  have hS8 := hS3
  refine wpAnyR_take (i := 0) (oi := ⟨some 5, _, _, _, _, _⟩) (v := ?_) rfl (by kernel_rfl) (by kernel_rfl) (by kernel_rfl) (fun _ _ _ h => h) hp (.inl ⟨by rfl, fun w _ => ?_⟩) (fun hq => ?_)
  rotate_left
  · go_simp
    with_reducible rfl
  clear hp; have hp := hq; clear hq
  try simp only [Act.put, List.setIfInBounds_toArray, List.set_cons_zero, List.set_cons_succ]
  refine wpAnyR_take (i := 1) (oi := ⟨some 6, _, _, _, _, _⟩) (v := ?_) rfl (by kernel_rfl) (by kernel_rfl) (by kernel_rfl) (fun _ _ _ h => h) hp (.inl ⟨by rfl, fun w hR => ?_⟩) (fun hq => ?_)
  rotate_left
  · have hR := hR.1 rfl
    (try dsimp only at hR)
    have h1 : w.cell? ⟨g, 0, none⟩ = some (.int .i64 a.1) := hR.cell 0
    clear hR
    go_simp
    with_reducible rfl
  clear hp; have hp := hq; clear hq
  try simp only [Act.put, List.setIfInBounds_toArray, List.set_cons_zero, List.set_cons_succ]
  refine wpAnyR_take (i := 2) (oi := ⟨some 7, _, _, _, _, _⟩) (v := ?_) rfl (by kernel_rfl) (by kernel_rfl) (by kernel_rfl) (fun _ _ _ h => h) hp (.inl ⟨by rfl, fun w _ => ?_⟩) (fun hq => ?_)
  rotate_left
  · go_simp
    with_reducible rfl
  clear hp; have hp := hq; clear hq
  try simp only [Act.put, List.setIfInBounds_toArray, List.set_cons_zero, List.set_cons_succ]
  refine wpAnyR_take (i := 3) (oi := ⟨some 8, _, _, _, _, _⟩) (v := ?_) rfl (by kernel_rfl) (by kernel_rfl) (by kernel_rfl) (fun _ _ _ h => h) hp (.inl ⟨by rfl, fun w hR => ?_⟩) (fun hq => ?_)
  rotate_left
  · have hR := hR.2.1 rfl
    (try dsimp only at hR)
    have h1 : w.cell? ⟨g + 1, 0, none⟩ = some (.int .i64 b.1) := hR.cell 0
    clear hR
    go_simp
    with_reducible rfl
  clear hp; have hp := hq; clear hq
  try simp only [Act.put, List.setIfInBounds_toArray, List.set_cons_zero, List.set_cons_succ]
  refine wpAnyR_take (i := 5) (oi := ⟨some 10, _, _, _, _, _⟩) (v := ?_) rfl (by kernel_rfl) (by kernel_rfl) (by kernel_rfl) (fun _ _ _ h => h) hp (.inl ⟨by rfl, fun w _ => ?_⟩) (fun hq => ?_)
  rotate_left
  · go_simp
    with_reducible rfl
  clear hp; have hp := hq; clear hq
  try simp only [Act.put, List.setIfInBounds_toArray, List.set_cons_zero, List.set_cons_succ]
  refine wpAnyR_take (i := 6) (oi := ⟨some 11, _, _, _, _, _⟩) (v := ?_) rfl (by kernel_rfl) (by kernel_rfl) (by kernel_rfl) (fun _ _ _ h => h) hp (.inl ⟨by rfl, fun w hR => ?_⟩) (fun hq => ?_)
  rotate_left
  · have hR := hR.2.2.1 rfl
    (try dsimp only at hR)
    have h1 : w.cell? ⟨g, 1, none⟩ = some (.int .i64 a.2) := hR.cell 1
    clear hR
    go_simp
    with_reducible rfl
  clear hp; have hp := hq; clear hq
  try simp only [Act.put, List.setIfInBounds_toArray, List.set_cons_zero, List.set_cons_succ]
  refine wpAnyR_take (i := 7) (oi := ⟨some 12, _, _, _, _, _⟩) (v := ?_) rfl (by kernel_rfl) (by kernel_rfl) (by kernel_rfl) (fun _ _ _ h => h) hp (.inl ⟨by rfl, fun w _ => ?_⟩) (fun hq => ?_)
  rotate_left
  · go_simp
    with_reducible rfl
  clear hp; have hp := hq; clear hq
  try simp only [Act.put, List.setIfInBounds_toArray, List.set_cons_zero, List.set_cons_succ]
  refine wpAnyR_take (i := 8) (oi := ⟨some 13, _, _, _, _, _⟩) (v := ?_) rfl (by kernel_rfl) (by kernel_rfl) (by kernel_rfl) (fun _ _ _ h => h) hp (.inl ⟨by rfl, fun w hR => ?_⟩) (fun hq => ?_)
  rotate_left
  · have hR := hR.2.2.2.1 rfl
    (try dsimp only at hR)
    have h1 : w.cell? ⟨g + 1, 1, none⟩ = some (.int .i64 b.2) := hR.cell 1
    clear hR
    go_simp
    with_reducible rfl
  clear hp; have hp := hq; clear hq
  try simp only [Act.put, List.setIfInBounds_toArray, List.set_cons_zero, List.set_cons_succ]
  refine wpAnyR_step (i := 4) (o := ⟨some 9, _, _, _, _, _⟩) (by kernel_rfl) rfl (by rfl) (fun K hK => ?_) -- Op.call { callee := Callee.value (Operand.func 97), args := #[Operand.tmp 6, Operand.tmp 8], argTypes := #[3, 
  go_simp
  refine (H.out.1 _).mono ?_
  rintro e w4 ⟨rfl, rfl⟩
  show K _ _
  refine hK _ _ (pend_off (by kernel_rfl) (pend_off (by kernel_rfl) (pend_on hS6 (pend_on hS8 pend_nil)))) (fun hq => ?_)
  clear hp hK K; have hp := hq; clear hq
  try simp only [Act.put, List.setIfInBounds_toArray, List.set_cons_zero, List.set_cons_succ]
  refine wpAnyR_step (i := 9) (o := ⟨some 14, _, _, _, _, _⟩) (by kernel_rfl) rfl (by rfl) (fun K hK => ?_) -- Op.call { callee := Callee.value (Operand.func 97), args := #[Operand.tmp 11, Operand.tmp 13], argTypes := #[3
  go_simp
  refine (H.out.2.1 _).mono ?_
  rintro e w4 ⟨rfl, rfl⟩
  show K _ _
  refine hK _ _ (pend_off (by kernel_rfl) (pend_off (by kernel_rfl) (pend_off (by kernel_rfl) (pend_off (by kernel_rfl) pend_nil)))) (fun hq => ?_)
  clear hp hK K; have hp := hq; clear hq
  try simp only [Act.put, List.setIfInBounds_toArray, List.set_cons_zero, List.set_cons_succ]
  refine wpAnyR_step (i := 10) (o := ⟨some 15, _, _, _, _, _⟩) (by kernel_rfl) rfl (by rfl) (fun K hK => ?_) -- Op.buildSlice 42 2 #[(0, Operand.tmp 9), (1, Operand.tmp 14)]
  go_simp
  refine hK _ _ (pend_off (by kernel_rfl) (pend_off (by kernel_rfl) (pend_off (by kernel_rfl) (pend_off (by kernel_rfl) pend_nil)))) (fun hq => ?_)
  clear hp hK K; have hp := hq; clear hq
  try simp only [Act.put, List.setIfInBounds_toArray, List.set_cons_zero, List.set_cons_succ]
  refine wpAnyR_step (i := 11) (o := ⟨some 16, _, _, _, _, _⟩) (by kernel_rfl) rfl (by rfl) (fun K hK => ?_) -- Op.call { callee := Callee.value (Operand.func 96), args := #[Operand.tmp 15], argTypes := #[42] }
  go_simp
  refine (H.out.2.2 w1.heap.size _ (Blk.fresh w1.drew 3 #[.int .i64 x, .int .i64 y])).mono ?_
  rintro e w4 ⟨rfl, rfl⟩
  show K _ _
  refine hK _ _ (pend_off (by kernel_rfl) (pend_off (by kernel_rfl) (pend_off (by kernel_rfl) (pend_off (by kernel_rfl) pend_nil)))) (fun hq => ?_)
  clear hp hK K; have hp := hq; clear hq
  try simp only [Act.put, List.setIfInBounds_toArray, List.set_cons_zero, List.set_cons_succ]
  refine wpAnyR_take (i := 12) (oi := ⟨some 4, _, _, _, _, _⟩) (v := ?_) rfl (by kernel_rfl) (by kernel_rfl) (by kernel_rfl) (fun _ _ _ h => h) hp (.inl ⟨by rfl, fun w _ => ?_⟩) (fun hq => ?_)
  rotate_left
  · go_simp
    with_reducible rfl
  clear hp; have hp := hq; clear hq
  try simp only [Act.put, List.setIfInBounds_toArray, List.set_cons_zero, List.set_cons_succ]
  refine wpAnyR_done (by kernel_rfl) ?_ _
  clear hp
  all_goals
    go_wp2
    go_ret
    refine ⟨rfl, 1, #[.cells (pCells a) 28, .cells (pCells b) 28, .cells #[.int .i64 x, .int .i64 y] 3], ?_⟩
    rw [HB.out.2.2.1, alloc_eq_grow, show (grow W #[.cells (pCells a) 28, .cells (pCells b) 28]).drew = grow W.drew #[.cells (pCells a) 28, .cells (pCells b) 28] from rfl]
    show (grow (grow W.drew _) _) = _
    rw [grow_grow]; rfl

/-! ### rows of pairs -/
def encP (c : Pe.Pair) : List Value := [.int .i64 c.1, .int .i64 c.2]
/-- The cells of a list of pairs. -/
def pRow (l : List Pe.Pair) : List Value := l.flatMap encP
theorem pRow_cons (x : Pe.Pair) (r : List Pe.Pair) : pRow (x :: r) = .int .i64 x.1 :: .int .i64 x.2 :: pRow r := rfl
theorem pRow_snoc (l : List Pe.Pair) (x : Pe.Pair) : pRow (l ++ [x]) = pRow l ++ encP x := by simp [pRow]
theorem pRow_append (l r : List Pe.Pair) : pRow (l ++ r) = pRow l ++ pRow r := by simp [pRow]
theorem pRow_len (l : List Pe.Pair) : (pRow l).length = l.length * 2 := by
  induction l with
  | nil => rfl
  | cons x r ih => rw [pRow_cons]; simp only [List.length_cons, ih]; omega
theorem pRow_one (l : List Pe.Pair) : ∀ u ∈ pRow l, u.oneCell' = true := by
  intro u hu
  simp only [pRow, List.mem_flatMap] at hu
  obtain ⟨x, _, hx⟩ := hu
  simp [encP] at hx
  rcases hx with rfl | rfl <;> rfl
theorem pRow_at : ∀ {l : List Pe.Pair} {i : Nat} {x : Pe.Pair}, l[i]? = some x → (pRow l)[i * 2]? = some (.int .i64 x.1) ∧ (pRow l)[i * 2 + 1]? = some (.int .i64 x.2)
  | [], i, x, h => by simp at h
  | y :: r, 0, x, h => by
    simp at h
    subst h
    exact ⟨rfl, rfl⟩
  | y :: r, i + 1, x, h => by
    have ih := pRow_at (l := r) (i := i) (x := x) (by simpa using h)
    rw [pRow_cons, show (i + 1) * 2 = i * 2 + 1 + 1 from by omega]
    exact ih
theorem pRow_flat (l : List Pe.Pair) : (flatK encP 2 l.toArray).toList = pRow l := by
  apply List.ext_getElem?
  intro t
  by_cases ht : t < l.length * 2
  · obtain ⟨x, hx⟩ : ∃ x, l[t / 2]? = some x := ⟨_, List.getElem?_eq_getElem (by omega)⟩
    have h := pRow_at hx
    have hg := get_flatK encP 2 l.toArray t (by simpa using ht)
    have hs : t < (flatK encP 2 l.toArray).size := by simpa using ht
    have hd : l.toArray[t / 2]! = x := by
      rw [getElem!_pos l.toArray (t / 2) (by simp; omega)]
      have := (List.getElem?_eq_some_iff.1 hx).2
      simpa using this
    rw [getElem!_pos _ t hs, hd] at hg
    rw [Array.getElem?_toList, Array.getElem?_eq_getElem hs, hg]
    rcases Nat.mod_two_eq_zero_or_one t with h2 | h2
    · have h3 := h.1
      rw [show t / 2 * 2 = t from by omega] at h3
      rw [h2, h3]; rfl
    · have h3 := h.2
      rw [show t / 2 * 2 + 1 = t from by omega] at h3
      rw [h2, h3]; rfl
  · have h1 : (flatK encP 2 l.toArray).toList.length ≤ t := by simp; omega
    have h2 : (pRow l).length ≤ t := by rw [pRow_len]; omega
    rw [List.getElem?_eq_none h1, List.getElem?_eq_none h2]
theorem heap_grow (w : World) (os : Array Obj) (k : Nat) (h : k < w.heap.size) : (grow w os).heap[k]? = w.heap[k]? := by
  show (w.heap ++ os)[k]? = _
  rw [Array.getElem?_append_left h]
theorem heap_sorted (W : World) (g m : Nat) (l' : List Pe.Pair) (os : Array Obj) (t : TypeId) (cs : Array Value) (hB : Blk W g t cs) (hl : (pRow l').length ≤ cs.size) :
    Blk (sortWorldK encP 2 W g 0 m l'.toArray os) g t (splice cs.toList 0 (pRow l')).toArray ∧ Chg (fun i => i = g) W (sortWorldK encP 2 W g 0 m l'.toArray os) := by
  have hm : ∀ k, (putRowK encP 2 (Sort.ahead W m) g 0 l'.toArray).heap[k]? = if g = k then (W.heap[k]?).map (onCells (putCells id 0 (flatK encP 2 l'.toArray))) else W.heap[k]? := fun k => by
    show (W.heap.modify g _)[k]? = _
    rw [Array.getElem?_modify]
  have hsz : (putRowK encP 2 (Sort.ahead W m) g 0 l'.toArray).heap.size = W.heap.size := size_putRow id _ _ _ _
  constructor
  · unfold Blk sortWorldK
    rw [heap_grow _ _ _ (by rw [hsz]; exact hB.lt), hm g, if_pos rfl, hB]
    simp only [Option.map_some, onCells]
    congr 2
    apply Array.ext'
    simp only
    apply List.ext_getElem?
    intro t
    have hf := pRow_flat l'
    have hfs : (flatK encP 2 l'.toArray).size = (pRow l').length := by rw [← hf, Array.length_toList]
    unfold putCells
    rw [Array.getElem?_toList, Array.getElem?_mapIdx]
    by_cases ht : t < (pRow l').length
    · have hc : t < cs.size := by omega
      rw [Array.getElem?_eq_getElem hc]
      simp only [Option.map_some]
      rw [if_pos ⟨Nat.zero_le _, by rw [hfs]; omega⟩]
      have h1 : (splice cs.toList 0 (pRow l'))[t]? = (pRow l')[t]? := by
        simp only [splice, List.take_zero, List.nil_append]
        rw [List.getElem?_append_left ht]
      rw [h1, ← hf, Array.getElem?_toList, Array.getElem?_eq_getElem (by rw [hfs]; exact ht), Nat.sub_zero, getElem!_pos _ t (by rw [hfs]; exact ht)]
      rfl
    · have h1 : (splice cs.toList 0 (pRow l'))[t]? = cs.toList[t]? := by
        simp only [splice, List.take_zero, List.nil_append, Nat.zero_add]
        rw [List.getElem?_append_right (by omega), List.getElem?_drop]
        congr 1
        omega
      rw [h1, Array.getElem?_toList]
      cases hq : cs[t]? with
      | none => rfl
      | some v =>
        simp only [Option.map_some]
        rw [if_neg (by rw [hfs]; omega)]
  · refine ⟨rfl, rfl, rfl, ?_, fun k hk hn => ?_⟩
    · show _ ≤ ((putRowK encP 2 (Sort.ahead W m) g 0 l'.toArray).heap ++ os).size
      rw [Array.size_append, hsz]; omega
    · unfold sortWorldK
      rw [heap_grow _ _ _ (by rw [hsz]; exact hk), hm k, if_neg (fun e => hn e.symm)]

end YtnphlekailodkaaGreatDoor
end Go.Proofs
