/-
  Rows of pairs sorted, asked for a pair.
-/
import Derived.Test.YtnphlekailodkaaGreatDoorSo
import Derived.Test.YtnphlekailodkaaGreatDoorFo
namespace Go.Proofs.YtnphlekailodkaaGreatDoor
open Go.Shelf Go.RowKit Go.Lib Go.Sort

theorem cmpP_lt (x y : Pe.Pair) : ltOf cmpP x y = decide (x.1 < y.1 ∨ (x.1 = y.1 ∧ x.2 < y.2)) := by
  unfold ltOf cmpP Lib.compareInt
  rw [Bool.eq_iff_iff]
  simp only [decide_eq_true_eq]
  by_cases h1 : x.1 < y.1
  · simp [h1]
  · by_cases h2 : y.1 < x.1
    · simp [h1, h2]; omega
    · have h3 : x.1 = y.1 := by omega
      by_cases h4 : x.2 < y.2
      · simp [h3, h4]
      · by_cases h5 : y.2 < x.2 <;> simp [h3, h4, h5]
theorem swoP : SWO (ltOf cmpP) where
  irrefl x := by rw [cmpP_lt]; simp
  trans x y z h1 h2 := by rw [cmpP_lt] at *; simp only [decide_eq_true_eq] at *; omega
  ntrans x y z h1 h2 := by rw [cmpP_lt] at *; simp only [decide_eq_false_iff_not] at *; omega
theorem totP (x y : Pe.Pair) (h1 : ltOf cmpP x y = false) (h2 : ltOf cmpP y x = false) : x = y := by
  rw [cmpP_lt] at *
  simp only [decide_eq_false_iff_not] at *
  exact Prod.ext (by omega) (by omega)
theorem geP : (fun x y : Pe.Pair => !ltOf cmpP y x) = Pe.leP := by
  funext x y
  rw [cmpP_lt, Pe.leP, Bool.eq_iff_iff]
  simp only [Bool.not_eq_true', decide_eq_false_iff_not, Bool.or_eq_true, Bool.and_eq_true, decide_eq_true_eq, beq_iff_eq]
  omega
theorem cmpLaysP (blk off size : Nat) (w : World) : CmpLays Tryz.prog 65 #[] encP 2 cmpP blk off size w := fun _ _ _ _ x y => comparePairs_calls x y _

theorem own_holds {W : World} {base g cap : Nat} {l : List Pe.Pair} (h : W.ownsRow base 28 2 (.slice (some ⟨g, 0, none⟩) l.length cap) l.length (pRow l)) : HoldsK encP 2 W g 0 l.toArray := by
  obtain ⟨cur, hg, _, h1, _, h3, h4, _⟩ := own_parts h
  intro j hj
  have hf := pRow_flat l
  have hj2 : j < (pRow l).length := by rw [← hf, Array.length_toList]; exact hj
  rw [Nat.zero_add]
  refine ⟨?_, hg.frozen j⟩
  rw [hg.cell j]
  have : (pRow l)[j]? = some ((flatK encP 2 l.toArray)[j]!) := by
    rw [← hf, Array.getElem?_toList, Array.getElem?_eq_getElem hj, getElem!_pos _ j hj]
  rw [← h4, List.getElem?_take] at this
  split at this
  · simpa using this
  · cases this
theorem SortFunc_calls {W : World} {base : Nat} {v : Value} {l : List Pe.Pair} (h : W.ownsRow base 28 2 v l.length (pRow l)) (hn : l.length < 4611686018427387904) :
    Calls Tryz.prog 64 #[v, .func (.func 65) #[] #[]] W fun e w' => e = .returned (.tuple #[]) ∧ w'.ownsRow base 28 2 v l.length (pRow (l.mergeSort Pe.leP)) ∧ Chg (fun i => v.ownBlock = some i) W w' := by
  by_cases h0 : l.length = 0
  · have hl : l = [] := List.eq_nil_of_length_eq_zero h0
    subst hl
    obtain ⟨A, cap, rfl, _⟩ := own_shape h
    refine (AnyF.slices_SortFunc_none (P := Tryz.prog) (ρ := laysSort_ren) { laysSort with } A cap (.func (.func 65) #[] #[]) W).mono ?_
    rintro e w' ⟨rfl, rfl⟩
    exact ⟨rfl, by simpa using h, Chg.refl _ _⟩
  · obtain ⟨g, cap, rfl, hbg, hlt, hnc, hcm⟩ := own_form h (by omega)
    have eg : ∀ args w, (callFunc 65 args).run Tryz.prog w = .ok (.enter 65 args) w := enters_of Tryz.func65 (by kernel_rfl) rfl
    have hcon := AnyQ.slices_SortFunc_total laysSort 2 Tryz.isAgg28 Tryz.sizeOf28 encP (fun _ => rfl) (fun x v hv => by simp [encP] at hv; rcases hv with rfl | rfl <;> rfl) cmpP swoP 65 #[] g 0 cap l.toArray W eg (cmpLaysP g 0 l.toArray.size W) (own_holds h) hlt (by simpa using hn) totP
    rw [geP] at hcon
    refine hcon.mono ?_
    rintro e w' ⟨rfl, m, os, rfl⟩
    obtain ⟨cur, hg, hb2, h1, h2, h3, h4, h5⟩ := own_parts h
    have hlen : (pRow (l.mergeSort Pe.leP)).length = l.length * 2 := by rw [pRow_len, List.length_mergeSort]
    obtain ⟨k1, k2⟩ := heap_sorted W g m (l.mergeSort Pe.leP) os 28 cur hg (by rw [hlen, h3]; omega)
    refine ⟨rfl, own_mk k1 hb2 h1 h2 ?_ ?_ hlen, k2.mono (fun i _ hi => by rw [hi]; rfl)⟩
    · have := length_splice cur.toList 0 (pRow (l.mergeSort Pe.leP)) (by rw [hlen]; simp [h3]; omega)
      simpa [h3] using this
    · simp only [splice, List.take_zero, List.nil_append]
      rw [List.take_append_of_le_length (by omega), List.take_of_length_le (by omega)]
theorem EqP : EqlAt Tryz.prog 28 (fun x => .agg (encP x).toArray) (fun x y => decide (x = y)) := by
  refine ⟨fun x y w => ?_, GuardAt.agg _ (by kernel_rfl)⟩
  exact eql_pair x y w
set_option maxRecDepth 100000 in
set_option maxHeartbeats 1000000 in
theorem Index_none (A : Option Addr) (cap : Nat) (x : Pe.Pair) (W : World) : Calls Tryz.prog 92 #[.slice A 0 cap, .agg (pCells x)] W fun e w' => e = .returned (.int .i64 (-1)) ∧ Below W.heap.size W w' := by
  go_enter Tryz.func92, Tryz.ntmps92
  unfold pCells
  go_wp2_with fail
  refine wp_loop_rounds 1 ?_
  rw [rounds_succ]
  go_wp2
  go_ret
  exact ⟨rfl, (Below.refl _ W).alloc (Nat.le_refl _) _⟩
set_option maxRecDepth 100000 in
set_option maxHeartbeats 1000000 in
theorem Contains_none (A : Option Addr) (cap : Nat) (x : Pe.Pair) (W : World) : Calls Tryz.prog 61 #[.slice A 0 cap, .agg (pCells x)] W fun e w' => e = .returned (.bool false) ∧ Below W.heap.size W w' := by
  have hi := fun W => Index_none A cap x W
  unfold pCells at hi
  have H := Lib.hid hi
  clear hi
  go_enter Tryz.func61, Tryz.ntmps61
  unfold pCells
  go_wp2_with fail
  refine (H.out _).mono ?_
  rintro e w1 ⟨rfl, hb⟩
  have HB := Lib.hid hb
  clear hb
  dsimp only
  go_wp2
  go_ret
  exact ⟨rfl, ((Below.refl _ W).alloc (Nat.le_refl _) _).trans (HB.out.mono (by simp))⟩
theorem Contains_calls {W : World} {base : Nat} {v : Value} {l : List Pe.Pair} (x : Pe.Pair) (h : W.ownsRow base 28 2 v l.length (pRow l)) :
    Calls Tryz.prog 61 #[v, .agg (pCells x)] W fun e w' => e = .returned (.bool (l.contains x)) ∧ Below W.heap.size W w' := by
  have hany : (l.take l.length).any (fun y => decide (x = y)) = l.contains x := by
    rw [List.take_length, Bool.eq_iff_iff, List.any_eq_true, List.contains_iff_mem]
    simp
  by_cases h0 : l.length = 0
  · have hl : l = [] := List.eq_nil_of_length_eq_zero h0
    subst hl
    obtain ⟨A, cap, rfl, _⟩ := own_shape h
    exact Contains_none A cap x W
  · obtain ⟨g, cap, rfl, hbg, hlt, hnc, hcm⟩ := own_form h (by omega)
    have hcon := AnyQ.slices_Contains laysHas 2 Tryz.isAgg28 Tryz.sizeOf28 encP (fun _ => rfl) _ EqP g 0 l.length cap l x W (Nat.le_refl _) (by simp only [maxLen] at hcm; omega) (fun j hj i v hv => ?_)
    · rw [hany] at hcon
      exact hcon
    · have hx : l[j]? = some l[j]! := by rw [getElem!_pos l j hj]; exact List.getElem?_eq_getElem hj
      have hr := pRow_at hx
      have h6 := own_range h (j * 2 + i) [v] (fun q u hu => by
        match q, hu with
        | 0, hu =>
          simp at hu
          subst hu
          match i, hv with
          | 0, hv => simp [encP] at hv; subst hv; simpa using hr.1
          | 1, hv => simp [encP] at hv; subst hv; simpa using hr.2)
      have := h6 0 _ rfl
      simpa using this

end Go.Proofs.YtnphlekailodkaaGreatDoor
