/-
  Words for memory: a block that is known whole, what may have changed, cells stored into the middle of a row.
-/
import Derived.WalkKit
import Derived.WalkSpells
import Derived.WalkLawsBesides
import Derived.Deep.MidRow
import Derived.Laws.CopyOwn
import Derived.Maps.AppendAt
import Derived.Deep.AppendLies
import Derived.Deep.RegionHeld3
import Derived.Deep.DrawnRows
import Derived.Deep.DeepFit
import Derived.Lib.Hide
namespace Go.Proofs.YtnphlekailodkaaGreatDoor
open Go.RowKit

/-- Block g holds just the cells cs, and they may be written. -/
def Blk (w : World) (g : Nat) (t : TypeId) (cs : Array Value) : Prop := w.heap[g]? = some (.cells cs t (0, 0))

section
variable {w w' : World} {g : Nat} {t : TypeId} {cs : Array Value}
theorem Blk.lt (h : Blk w g t cs) : g < w.heap.size := (Array.getElem?_eq_some_iff.1 h).1
theorem Blk.cell (h : Blk w g t cs) (i : Nat) : w.cell? ⟨g, i, none⟩ = cs[i]? := cell_of_row w g i cs t (0, 0) h
theorem Blk.frozen (h : Blk w g t cs) (i : Nat) : w.frozen? ⟨g, i, none⟩ = false := frozen_of_row w g i cs t h
theorem Blk.fresh (w : World) (t : TypeId) (cs : Array Value) : Blk (w.alloc (.cells cs t)) w.heap.size t cs := heap_alloc_new w _
theorem Blk.drew (h : Blk w g t cs) : Blk w.drew g t cs := h
theorem Blk.drewN (h : Blk w g t cs) (n : Nat) : Blk (w.drewN n) g t cs := h
theorem Blk.alloc (h : Blk w g t cs) (o : Obj) : Blk (w.alloc o) g t cs := (Below.heap_alloc w o g h.lt).trans h
theorem Blk.put (h : Blk w g t cs) (i : Nat) (u : Value) : Blk (w.setCell ⟨g, i, none⟩ u) g t (cs.setIfInBounds i u) := heap_setCell_same w g i cs t u h
theorem Blk.far (h : Blk w g t cs) {p : Addr} (hp : g ≠ p.block) (u : Value) : Blk (w.setCell p u) g t cs := (heap_setCell_other w p g u hp).trans h
theorem Blk.apart {g' : Nat} {t' : TypeId} {cs' : Array Value} (h : Blk w g t cs) (h' : Blk w g' t' cs') (hne : t ≠ t') : g ≠ g' := by
  rintro rfl
  unfold Blk at h h'
  rw [h] at h'
  injection h' with h'
  injection h' with _ ht
  exact hne ht
theorem Blk.below {B : Nat} (h : Blk w g t cs) (hb : Below B w w') (hg : g < B) : Blk w' g t cs := (hb.block g hg).trans h
theorem Blk.setCells {o : Nat} {vs : List Value} (h : Blk w g t cs) (hfit : o + vs.length ≤ cs.size) : Blk (w.setCells g o vs) g t (splice cs.toList o vs).toArray := by
  induction vs generalizing o w cs with
  | nil => simpa [World.setCells, splice] using h
  | cons v r ih =>
    simp only [List.length_cons] at hfit
    have h1 := ih (o := o + 1) (h.put o v) (by simp; omega)
    simp only [World.setCells]
    have e : splice (cs.setIfInBounds o v).toList (o + 1) r = splice cs.toList o (v :: r) := by
      simp only [splice, Array.toList_setIfInBounds, List.length_cons]
      rw [List.take_set, List.drop_set_of_lt (by omega), List.take_add_one, List.set_append_right _ _ (by simp; omega)]
      have ho : cs.toList[o]? = some (cs[o]'(by omega)) := by simp
      rw [ho]
      have hl : (List.take o cs.toList).length = o := by simp; omega
      simp only [Option.toList_some, hl, Nat.sub_self, List.set_cons_zero, List.append_assoc, List.cons_append, List.nil_append]
      rw [show o + 1 + r.length = o + (r.length + 1) from by omega]
    rw [e] at h1
    exact h1
theorem heap_setCells_other (b : Nat) : ∀ (vs : List Value) (o : Nat) (w : World) (k : Nat), k ≠ b → (w.setCells b o vs).heap[k]? = w.heap[k]?
  | [], _, _, _, _ => rfl
  | v :: r, o, w, k, h => by
    simp only [World.setCells]
    rw [heap_setCells_other b r (o + 1) _ k h, heap_setCell_other w _ k v h]
theorem size_setCells (b : Nat) : ∀ (vs : List Value) (o : Nat) (w : World), (w.setCells b o vs).heap.size = w.heap.size
  | [], _, _ => rfl
  | v :: r, o, w => by
    simp only [World.setCells]
    rw [size_setCells b r (o + 1)]
    simp [World.setCell]
theorem same_setCells (b : Nat) : ∀ (vs : List Value) (o : Nat) (w : World), (w.setCells b o vs).os = w.os ∧ (w.setCells b o vs).tape = w.tape ∧ (w.setCells b o vs).output = w.output
  | [], _, _ => ⟨rfl, rfl, rfl⟩
  | v :: r, o, w => by
    simp only [World.setCells]
    exact same_setCells b r (o + 1) _
theorem Blk.farCells (h : Blk w g t cs) {b o : Nat} (hp : g ≠ b) (vs : List Value) : Blk (w.setCells b o vs) g t cs := (heap_setCells_other b vs o w g hp).trans h
theorem Blk.range (h : Blk w g t cs) (o : Nat) (vs : List Value) (hv : ∀ j v, vs[j]? = some v → cs[o + j]? = some v) : w.rangeAt g o vs := fun j v hj => by
  rw [h.cell]; exact hv j v hj
theorem Blk.there_ (h : Blk w g t cs) (o n : Nat) (hn : o + n ≤ cs.size) : w.there g o n := fun j hj => by
  rw [h.cell, h.frozen, Array.getElem?_eq_getElem (by omega)]; exact ⟨rfl, rfl⟩
end

/-- What may have changed: the blocks of fp, and new ones. -/
structure Chg (fp : Nat → Prop) (w w' : World) : Prop where
  os : w'.os = w.os
  tape : w'.tape = w.tape
  output : w'.output = w.output
  size : w.heap.size ≤ w'.heap.size
  block : ∀ k, k < w.heap.size → ¬ fp k → w'.heap[k]? = w.heap[k]?

section
variable {fp fp' : Nat → Prop} {a w w' : World}
theorem Chg.refl (fp : Nat → Prop) (w : World) : Chg fp w w := ⟨rfl, rfl, rfl, Nat.le_refl _, fun _ _ _ => rfl⟩
theorem Chg.trans (h : Chg fp a w) (k : Chg fp' w w') (hf : ∀ i, fp' i → fp i ∨ a.heap.size ≤ i) : Chg fp a w' :=
  ⟨k.os.trans h.os, k.tape.trans h.tape, k.output.trans h.output, Nat.le_trans h.size k.size, fun i hi hn =>
    (k.block i (Nat.lt_of_lt_of_le hi h.size) (fun hf' => by rcases hf i hf' with h1 | h1; exact hn h1; omega)).trans (h.block i hi hn)⟩
theorem Chg.mono (h : Chg fp a w) (hf : ∀ i, i < a.heap.size → fp i → fp' i) : Chg fp' a w := ⟨h.os, h.tape, h.output, h.size, fun i hi hn => h.block i hi (fun hf' => hn (hf i hi hf'))⟩
theorem Chg.drew (h : Chg fp a w) : Chg fp a w.drew := ⟨h.os, h.tape, h.output, h.size, h.block⟩
theorem Chg.drewN (h : Chg fp a w) (n : Nat) : Chg fp a (w.drewN n) := ⟨h.os, h.tape, h.output, h.size, h.block⟩
theorem Chg.alloc (h : Chg fp a w) (o : Obj) : Chg fp a (w.alloc o) :=
  ⟨h.os, h.tape, h.output, Nat.le_trans h.size (by simp), fun i hi hn => (Below.heap_alloc w o i (Nat.lt_of_lt_of_le hi h.size)).trans (h.block i hi hn)⟩
theorem Chg.setCell (h : Chg fp a w) {p : Addr} (hp : fp p.block ∨ a.heap.size ≤ p.block) (u : Value) : Chg fp a (w.setCell p u) :=
  ⟨h.os, h.tape, h.output, by simpa [World.setCell] using h.size, fun i hi hn => (heap_setCell_other w p i u (fun e => by rcases hp with h1 | h1; exact hn (e ▸ h1); omega)).trans (h.block i hi hn)⟩
theorem Chg.setCells (h : Chg fp a w) {b : Nat} (hp : fp b ∨ a.heap.size ≤ b) (o : Nat) (vs : List Value) : Chg fp a (w.setCells b o vs) :=
  ⟨(same_setCells b vs o w).1.trans h.os, (same_setCells b vs o w).2.1.trans h.tape, (same_setCells b vs o w).2.2.trans h.output, by rw [size_setCells]; exact h.size,
    fun i hi hn => (heap_setCells_other b vs o w i (fun e => by rcases hp with h1 | h1; exact hn (e ▸ h1); omega)).trans (h.block i hi hn)⟩
theorem Chg.below {B : Nat} (h : Chg fp a w) (hf : ∀ i, fp i → B ≤ i) (hB : B ≤ a.heap.size) : Below B a w :=
  ⟨h.os, h.tape, h.output, h.size, fun k hk => h.block k (by omega) (fun e => by have := hf k e; omega)⟩
theorem Chg.of_below (h : Below a.heap.size a w) : Chg fp a w := ⟨h.os, h.tape, h.output, h.size, fun k hk _ => h.block k hk⟩
theorem Chg.of_grownBy {row : Option Nat} (h : a.grownBy w row) (hf : ∀ k, row = some k → fp k ∨ a.heap.size ≤ k) : Chg fp a w :=
  ⟨h.os, h.tape, h.output, h.size, fun k hk hn => h.block k hk (fun e => by rcases hf k e.symm with h1 | h1; exact hn h1; omega)⟩
theorem Chg.blk {g : Nat} {t : TypeId} {cs : Array Value} (h : Chg fp a w) (hg : Blk a g t cs) (hn : ¬ fp g) : Blk w g t cs := (h.block g hg.lt hn).trans hg
theorem Chg.own {base : Nat} {e : TypeId} {size n : Nat} {v : Value} {xs : List Value} (h : Chg fp a w) (ho : a.ownsRow base e size v n xs) (hn : ∀ k, v.ownBlock = some k → ¬ fp k) : w.ownsRow base e size v n xs := by
  refine ⟨ho.1, ?_⟩
  rcases ho.2 with h0 | ⟨g, cap, cur, rfl, hb, hg, r⟩
  · exact .inl h0
  · exact .inr ⟨g, cap, cur, rfl, hb, h.blk (t := e) hg (hn g rfl), r⟩
theorem Chg.cell (h : Chg fp a w) {p : Addr} (hp : p.block < a.heap.size) (hn : ¬ fp p.block) : w.cell? p = a.cell? p := World.cell?_of_block (h.block _ hp hn)
end

section
variable {w : World} {base : Nat} {e : TypeId} {size n cap g : Nat} {xs : List Value}
theorem own_parts (h : w.ownsRow base e size (.slice (some ⟨g, 0, none⟩) n cap) n xs) :
    ∃ cur, Blk w g e cur ∧ base ≤ g ∧ n ≤ cap ∧ cap ≤ maxLen ∧ cur.size = cap * size ∧ cur.toList.take (n * size) = xs ∧ xs.length = n * size := by
  rcases h.2 with ⟨h0, _⟩ | ⟨g', cap', cur, hv, hb, hg, h1, h2, h3, h4⟩
  · cases h0
  · injection hv with hv _ hc
    injection hv with hv
    injection hv with hv
    subst hv; subst hc
    exact ⟨cur, hg, hb, h1, h2, h3, h4, h.1⟩
theorem own_mk {cur : Array Value} (hg : Blk w g e cur) (hb : base ≤ g) (h1 : n ≤ cap) (h2 : cap ≤ maxLen) (h3 : cur.size = cap * size) (h4 : cur.toList.take (n * size) = xs) (h5 : xs.length = n * size) :
    w.ownsRow base e size (.slice (some ⟨g, 0, none⟩) n cap) n xs := ⟨h5, .inr ⟨g, cap, cur, rfl, hb, hg, h1, h2, h3, h4⟩⟩
theorem own_range (h : w.ownsRow base e size (.slice (some ⟨g, 0, none⟩) n cap) n xs) (o : Nat) (vs : List Value) (hv : ∀ j v, vs[j]? = some v → xs[o + j]? = some v) : w.rangeAt g o vs := by
  obtain ⟨cur, hg, _, _, _, _, ht, _⟩ := own_parts h
  refine hg.range o vs (fun j v hj => ?_)
  have h1 := hv j v hj
  rw [← ht, List.getElem?_take] at h1
  split at h1
  · simpa using h1
  · cases h1
theorem own_there (h : w.ownsRow base e size (.slice (some ⟨g, 0, none⟩) n cap) n xs) (o k : Nat) (hk : o + k ≤ n * size) : w.there g o k := by
  obtain ⟨cur, hg, _, h1, _, h3, _, _⟩ := own_parts h
  exact hg.there_ o k (by rw [h3]; exact Nat.le_trans hk (Nat.mul_le_mul_right _ h1))
theorem take_splice {α : Type} (L : List α) (o k : Nat) (vs : List α) (h : o + vs.length ≤ k) : (splice L o vs).take k = splice (L.take k) o vs := by
  by_cases hk : k ≤ L.length
  · simp only [splice]
    have e1 : (L.take o).length = o := by simp; omega
    rw [List.take_append, List.take_append, List.take_take, List.take_take, List.drop_take, e1, Nat.min_eq_left (a := o) (by omega), Nat.min_eq_right (a := k) (by omega)]
    rw [List.take_of_length_le (l := vs) (by omega), show k - o - vs.length = k - (o + vs.length) from by omega]
  · rw [List.take_of_length_le (l := L) (by omega)]
    apply List.take_of_length_le
    simp [splice]; omega
theorem own_setCells (h : w.ownsRow base e size (.slice (some ⟨g, 0, none⟩) n cap) n xs) (o : Nat) (vs : List Value) (hk : o + vs.length ≤ n * size) :
    (w.setCells g o vs).ownsRow base e size (.slice (some ⟨g, 0, none⟩) n cap) n (splice xs o vs) := by
  obtain ⟨cur, hg, hb, h1, h2, h3, h4, h5⟩ := own_parts h
  have hfit : o + vs.length ≤ cur.size := by rw [h3]; exact Nat.le_trans hk (Nat.mul_le_mul_right _ h1)
  refine own_mk (hg.setCells hfit) hb h1 h2 ?_ ?_ ?_
  · have := length_splice cur.toList o vs (by simpa using hfit)
    simpa [h3] using this
  · simp only []
    rw [take_splice _ _ _ _ hk, h4]
  · rw [length_splice xs o vs (by omega), h5]
theorem own_form {v : Value} (h : w.ownsRow base e size v n xs) (hn : 0 < n) : ∃ g cap, v = .slice (some ⟨g, 0, none⟩) n cap ∧ base ≤ g ∧ g < w.heap.size ∧ n ≤ cap ∧ cap ≤ maxLen := by
  rcases h.2 with ⟨_, h0⟩ | ⟨g', cap', cur, hv, hb, hg, h1, h2, _⟩
  · omega
  · exact ⟨g', cap', hv, hb, (Array.getElem?_eq_some_iff.1 hg).1, h1, h2⟩
theorem own_shape {v : Value} (h : w.ownsRow base e size v n xs) : ∃ A cap, v = .slice A n cap ∧ n ≤ cap ∧ cap ≤ maxLen := by
  rcases h.2 with ⟨hv, h0⟩ | ⟨g', cap', cur, hv, hb, hg, h1, h2, _⟩
  · exact ⟨none, 0, by rw [hv, h0], by omega, by simp [maxLen]⟩
  · exact ⟨_, cap', hv, h1, h2⟩
end

theorem own_ne_blk {w : World} {base : Nat} {e : TypeId} {size n : Nat} {v : Value} {xs : List Value} {g : Nat} {t : TypeId} {cs : Array Value} (h : w.ownsRow base e size v n xs) (hg : Blk w g t cs) (hne : e ≠ t) : ∀ k, v.ownBlock = some k → k ≠ g := by
  intro k hk
  rcases h.2 with ⟨rfl, _⟩ | ⟨g', cap, cur, rfl, _, hh, _⟩
  · simp [Value.ownBlock] at hk
  · have : g' = k := by simpa [Value.ownBlock] using hk
    subst this
    exact Blk.apart (t := e) hh hg hne
theorem own_ne_own {w : World} {base base' : Nat} {e e' : TypeId} {size size' n n' : Nat} {v v' : Value} {xs xs' : List Value} (h : w.ownsRow base e size v n xs) (h' : w.ownsRow base' e' size' v' n' xs') (hne : e ≠ e') :
    ∀ k k', v.ownBlock = some k → v'.ownBlock = some k' → k ≠ k' := by
  intro k k' hk hk'
  rcases h'.2 with ⟨rfl, _⟩ | ⟨g', cap, cur, rfl, _, hh, _⟩
  · simp [Value.ownBlock] at hk'
  · have : g' = k' := by simpa [Value.ownBlock] using hk'
    subst this
    exact own_ne_blk (t := e') h hh hne k hk

/-- The cells cs lie at A (which may be nil where there are none). -/
def SrcAt (w : World) (A : Option Addr) (cs : List Value) : Prop := cs = [] ∨ ∃ ad, A = some ad ∧ ∀ j v, cs[j]? = some v → w.cell? (ad.add j) = some v
theorem SrcAt.chg {fp : Nat → Prop} {w w' : World} {A : Option Addr} {cs : List Value} (h : SrcAt w A cs) (hc : Chg fp w w') (hn : cs ≠ [] → ∀ ad, A = some ad → ¬ fp ad.block) : SrcAt w' A cs := by
  by_cases hcs : cs = []
  · exact .inl hcs
  rcases h with h | ⟨ad, hA, h⟩
  · exact .inl h
  · refine .inr ⟨ad, hA, fun j v hv => ?_⟩
    have h1 := h j v hv
    have hb : (ad.add j).block = ad.block := by unfold Addr.add; split <;> rfl
    rw [hc.cell (World.block_lt_of_cell? w _ h1) (by rw [hb]; exact hn hcs ad hA), h1]
theorem SrcAt.drew {w : World} {A : Option Addr} {cs : List Value} (h : SrcAt w A cs) : SrcAt w.drew A cs := h

theorem wpList_copy_mid {P : Program} {w : World} {ops : Array Oper} {rest : List Oper} {o : Oper} {a : Act} {Q : Exit → Act → World → Prop} (hgd : o.guard = none) (d s : Operand) (dT sT : TypeId)
    (ho : o.op = .call { callee := .builtin .copy, args := #[d, s], argTypes := #[dT, sT] }) (elem : TypeId) (hu : P.underlying dT = some (.slice elem)) (hsz : (P.info? elem).map (·.size) = some 1)
    (b off dLen dCap : Nat) (A : Option Addr) (sLen sCap : Nat) (hd : a.eval d = .slice (some ⟨b, off, none⟩) dLen dCap) (hs : a.eval s = .slice A sLen sCap)
    (cs : List Value) (hn : cs.length = Nat.min sLen dLen) (hsrc : SrcAt w A cs) (ht : w.there b off cs.length) (h1 : ∀ v ∈ cs, v.oneCell' = true)
    (h : wpList P ops Q rest (a.put o.dst (goInt cs.length)) (w.setCells b off cs)) : wpList P ops Q (o :: rest) a w := by
  rcases hsrc with rfl | ⟨ad, rfl, hsrc⟩
  · exact wpList_copy_nothing hgd d s dT sT ho elem hu hsz _ A dLen dCap sLen sCap hd hs (by simpa using hn.symm) h
  · refine wpList_plain hgd fun K hK => ?_
    have hrun := run_copy_cells (P := P) w dT sT o.type elem b off dLen dCap ad sLen sCap cs hu hsz hn hsrc (fun j hj => (ht j hj).1) (fun j hj => (ht j hj).2) h1
    unfold Oper.wp
    simp [execOp, ho, resolve, invoke, builtin, hd, hs, hrun, Result.andThen]
    exact hK _ _ h

theorem SrcAt.alloc {w : World} {A : Option Addr} {cs : List Value} (h : SrcAt w A cs) (o : Obj) : SrcAt (w.alloc o) A cs :=
  h.chg ((Chg.refl (fun _ => False) w).alloc o) (fun _ _ _ h => h)

theorem wp_copy_at {P : Program} {w : World} {o : Oper} {a : Act} {K : Act → World → Prop} {Q : Exit → Act → World → Prop} (d s : Operand) (dT sT : TypeId)
    (ho : o.op = .call { callee := .builtin .copy, args := #[d, s], argTypes := #[dT, sT] }) (elem : TypeId) (hu : P.underlying dT = some (.slice elem)) (hsz : (P.info? elem).map (·.size) = some 1)
    (b off dLen dCap : Nat) (A : Option Addr) (sLen sCap : Nat) (hd : a.eval d = .slice (some ⟨b, off, none⟩) dLen dCap) (hs : a.eval s = .slice A sLen sCap)
    (cs : List Value) (hn : cs.length = Nat.min sLen dLen) (hsrc : SrcAt w A cs) (ht : w.there b off cs.length) (h1 : ∀ v ∈ cs, v.oneCell' = true)
    (h : ∀ w', Hid (w' = w.setCells b off cs) → K (a.put o.dst (goInt cs.length)) w') : o.wp P a w K Q := by
  rcases hsrc with rfl | ⟨ad, rfl, hsrc⟩
  · have hrun := run_copy_none (P := P) w dT sT o.type elem (some ⟨b, off, none⟩) A dLen dCap sLen sCap hu hsz (by simpa using hn.symm)
    unfold Oper.wp
    simp [execOp, ho, resolve, invoke, builtin, hd, hs, hrun, Result.andThen]
    exact h w (Lib.hid rfl)
  · have hrun := run_copy_cells (P := P) w dT sT o.type elem b off dLen dCap ad sLen sCap cs hu hsz hn hsrc (fun j hj => (ht j hj).1) (fun j hj => (ht j hj).2) h1
    unfold Oper.wp
    simp [execOp, ho, resolve, invoke, builtin, hd, hs, hrun, Result.andThen]
    exact h _ (Lib.hid rfl)
theorem wpList_copy_at {P : Program} {w : World} {ops : Array Oper} {rest : List Oper} {o : Oper} {a : Act} {Q : Exit → Act → World → Prop} (hgd : o.guard = none) (d s : Operand) (dT sT : TypeId)
    (ho : o.op = .call { callee := .builtin .copy, args := #[d, s], argTypes := #[dT, sT] }) (elem : TypeId) (hu : P.underlying dT = some (.slice elem)) (hsz : (P.info? elem).map (·.size) = some 1)
    (b off dLen dCap : Nat) (A : Option Addr) (sLen sCap : Nat) (hd : a.eval d = .slice (some ⟨b, off, none⟩) dLen dCap) (hs : a.eval s = .slice A sLen sCap)
    (cs : List Value) (hn : cs.length = Nat.min sLen dLen) (hsrc : SrcAt w A cs) (ht : w.there b off cs.length) (h1 : ∀ v ∈ cs, v.oneCell' = true)
    (h : ∀ w', Hid (w' = w.setCells b off cs) → wpList P ops Q rest (a.put o.dst (goInt cs.length)) w') : wpList P ops Q (o :: rest) a w :=
  wpList_copy_mid hgd d s dT sT ho elem hu hsz b off dLen dCap A sLen sCap hd hs cs hn hsrc ht h1 (h _ (Lib.hid rfl))

theorem wpList_store_at {P : Program} {ops : Array Oper} {rest : List Oper} {op : Oper} {a : Act} {w : World} {Q : Exit → Act → World → Prop} (hgd : op.guard = none) (ty : TypeId) (x y : Operand) (ho : op.op = .store ty x y)
    (b o : Nat) (cs : List Value) (hx : a.eval x = .pointer (some ⟨b, o, none⟩)) (hy : a.eval y = .agg cs.toArray)
    (ht : w.there b o cs.length) (hi : (P.info? ty).map (·.size) = some cs.length) (h1 : ∀ v ∈ cs, v.oneCell' = true)
    (h : ∀ w', Hid (w' = w.setCells b o cs) → wpList P ops Q rest (a.put op.dst undef) w') : wpList P ops Q (op :: rest) a w :=
  wpList_store_mid hgd ty x y ho b o cs.toArray hx hy (by simpa using ht) (by simpa using hi) (all_oneCell_toArray h1) (h _ (Lib.hid rfl))
theorem wp_store_at {P : Program} {op : Oper} {a : Act} {w : World} {K : Act → World → Prop} {Q : Exit → Act → World → Prop} (ty : TypeId) (x y : Operand) (ho : op.op = .store ty x y)
    (b o : Nat) (cs : List Value) (hx : a.eval x = .pointer (some ⟨b, o, none⟩)) (hy : a.eval y = .agg cs.toArray)
    (ht : w.there b o cs.length) (hi : (P.info? ty).map (·.size) = some cs.length) (h1 : ∀ v ∈ cs, v.oneCell' = true)
    (h : ∀ w', Hid (w' = w.setCells b o cs) → K (a.put op.dst undef) w') : op.wp P a w K Q :=
  wp_store_mid ty x y ho b o cs.toArray hx hy (by simpa using ht) (by simpa using hi) (all_oneCell_toArray h1) (h _ (Lib.hid rfl))

theorem foldl_splice : ∀ (vs : List Value) (k off : Nat) (cells : Array Value), off + k + vs.length ≤ cells.size →
    (vs.zipIdx k).foldl (fun (cs : Array Value) (p : Value × Nat) => cs.setIfInBounds (off + p.2) p.1) cells = (splice cells.toList (off + k) vs).toArray
  | [], k, off, cells, _ => by simp [splice]
  | v :: r, k, off, cells, h => by
    simp only [List.length_cons] at h
    simp only [List.zipIdx_cons, List.foldl_cons]
    rw [foldl_splice r (k + 1) off _ (by simp; omega)]
    congr 1
    simp only [splice, Array.toList_setIfInBounds, List.length_cons]
    rw [List.take_set, List.drop_set_of_lt (by omega), show off + (k + 1) = off + k + 1 from by omega, List.take_add_one, List.set_append_right _ _ (by simp; omega)]
    have ho : cells.toList[off + k]? = some (cells[off + k]'(by omega)) := by simp
    rw [ho]
    have hl : (List.take (off + k) cells.toList).length = off + k := by simp; omega
    simp only [Option.toList_some, hl, Nat.sub_self, List.set_cons_zero, List.append_assoc, List.cons_append, List.nil_append]
    rw [show off + k + 1 + r.length = off + k + (r.length + 1) from by omega]

theorem fill_one (place : Nat → Option (Nat × Nat)) (cells : Array Value) (i off : Nat) (v : Value) (rest : List (Nat × Value)) (hp : place i = some (off, v.cells.size)) (hfit : off + v.cells.size ≤ cells.size) :
    Instr.fill place cells ((i, v) :: rest) = Instr.fill place (splice cells.toList off v.cells.toList).toArray rest := by
  have hn : (v.cells.size ≠ v.cells.size || off + v.cells.size > cells.size) = false := by simp; omega
  have hf := foldl_splice v.cells.toList 0 off cells (by simpa using hfit)
  rw [Instr.fill]
  simp only [hp, hn]
  rw [← Array.foldl_toList, Array.toList_zipIdx]
  simp only [Nat.add_zero] at hf
  rw [← hf]
  rfl

end Go.Proofs.YtnphlekailodkaaGreatDoor
