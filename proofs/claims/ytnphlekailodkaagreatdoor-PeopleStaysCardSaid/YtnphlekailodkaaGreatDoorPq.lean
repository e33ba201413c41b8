/-
  Pairs compared; a store into a set inside a fence.
-/
import Derived.Test.YtnphlekailodkaaGreatDoorRc
import Derived.Maps.OwnIn
namespace Go.Proofs.YtnphlekailodkaaGreatDoor
open Go.RowKit

theorem equal_pair (x y : Pe.Pair) (w : World) : (Op.equalIn 10000 28 (.agg (pCells x)) (.agg (pCells y))).run Tryz.prog w = .ok (decide (x = y)) w := by
  have hS : Tryz.prog.underlying 28 = some (.struct (Tryz.prog.fieldsOf 28)) := by kernel_rfl
  have hp : Tryz.prog.stoodInHeld 28 = false := by kernel_rfl
  have u3 := Tryz.underlying3
  have a3 := Tryz.isAgg3
  have z3 := Tryz.sizeOf3
  unfold pCells
  rw [show (10000 : Nat) = 9999 + 1 from rfl, run_equalIn_agg w 9999 28 _ _ hS hp]
  simp only [Program.fieldsOf, Tryz.underlying28]
  go_simp
  clear hS hp u3 a3 z3
  obtain ⟨x1, x2⟩ := x
  obtain ⟨y1, y2⟩ := y
  dsimp only
  repeat' split
  all_goals
    refine congrArg (fun b => Result.ok b w) (Eq.symm ?_)
    first
      | (rw [decide_eq_true_eq]; rw [show x1 = y1 by assumption, show x2 = y2 by assumption])
      | (rw [decide_eq_false_iff_not]; intro h; injection h with h1 h2; first | exact absurd h1 (by assumption) | exact absurd h2 (by assumption))
theorem eql_pair (x y : Pe.Pair) (w : World) : (binOp .eql 28 (.agg (pCells x)) (.agg (pCells y))).run Tryz.prog w = .ok (.bool (decide (x = y))) w := by
  rw [run_eql_struct, equal_pair]; rfl
theorem neq_pair (x y : Pe.Pair) (w : World) : (binOp .neq 28 (.agg (pCells x)) (.agg (pCells y))).run Tryz.prog w = .ok (.bool (!decide (x = y))) w := by
  rw [run_neq_struct, equal_pair]; rfl
theorem wpListIn_store_set {F : Fence} {nF : Nat} {P : Program} {ki kb tm : TypeId} (w : World) {ops : Array Oper} {rest : List Oper} {o : Oper} {a : Act} {Q : Exit → Act → World → Prop} (hg : o.guard = none) (m x v : Operand) (hop : o.op = Op.mapUpdate tm m x v) (hi : P.underlying ki = some (.int .i64)) (hb : P.underlying kb = some .bool) (ht : P.underlying tm = some (.map ki kb)) (b n : Nat) (S : Int → Bool)
    (hm : a.eval m = .map (some b)) (hown : SetAt P ki kb w b n S) (hn : n < maxLen) (y : Int) (hx : a.eval x = .int .i64 y) (hv : a.eval v = .bool true) (hy : (Lit.int .i64 y).wf = true)
    (hK : ∀ w', SetAt P ki kb w' b (n + 1) (fun z => z == y || S z) → w.grownBy w' (some b) → wpListIn F nF P ops Q rest (a.put o.dst undef) w') : wpListIn F nF P ops Q (o :: rest) a w := by
  refine wpListIn_plain hg fun K' hK' => ?_
  obtain ⟨w', hrun, r1, r2⟩ := run_store_set w hi hb ht hown hn y hy
  unfold Oper.wpIn
  refine ⟨by simp [Oper.about, hop], ?_⟩
  rw [Oper.semAt_plain F _ _ (by rw [hop]; intro c hc'; cases hc')]
  simp [execOp, hop, hm, hx, hv, hrun, Result.andThen]
  exact hK' _ _ (hK w' r1 r2)

theorem Chg.others {fp : Nat → Prop} {w w' : World} (h : Chg fp w w') (hf : ∀ i, fp i → ∃ t cs, Blk w i t cs) : KeepsOthers w w' :=
  ⟨h.size, fun k o hk ho => (h.block k (Array.getElem?_eq_some_iff.1 hk).1 (fun e => by
    obtain ⟨t, cs, hb⟩ := hf k e
    unfold Blk at hb
    rw [hb] at hk
    cases hk
    cases ho)).trans hk⟩
theorem row_stored {w : World} {b : Nat} {ty : TypeId} {old cs : Array Value} (hB : Blk w b ty old) (hsz : cs.size = old.size) : Blk (w.setCells b 0 cs.toList) b ty cs := by
  have := hB.setCells (o := 0) (vs := cs.toList) (by simp [hsz])
  rw [show (splice old.toList 0 cs.toList).toArray = cs from by simp [splice, hsz, List.drop_of_length_le]] at this
  exact this
/-- A whole row stored into its block. -/
theorem wpListIn_store_row {F : Fence} {nF : Nat} {P : Program} {ops : Array Oper} {rest : List Oper} {op : Oper} {a : Act} {w : World} {Q : Exit → Act → World → Prop} (hgd : op.guard = none) (ty : TypeId) (x y : Operand) (ho : op.op = .store ty x y)
    (b : Nat) (old cs : Array Value) (hB : Blk w b ty old) (hsz : cs.size = old.size) (hi : (P.info? ty).map (·.size) = some cs.size) (h1 : cs.all (·.oneCell') = true) (hx : a.eval x = .pointer (some ⟨b, 0, none⟩)) (hy : a.eval y = .agg cs)
    (h : ∀ w', Blk w' b ty cs → Chg (fun i => i = b) w w' → KeepsOthers w w' → wpListIn F nF P ops Q rest (a.put op.dst undef) w') : wpListIn F nF P ops Q (op :: rest) a w := by
  refine wpListIn_plain hgd fun K' hK' => ?_
  have hrun := run_storeAt_mid (P := P) w b 0 ty cs (hB.there_ 0 cs.size (by simp [hsz])) hi h1
  have hC : Chg (fun i => i = b) w (w.setCells b 0 cs.toList) := (Chg.refl (fun i => i = b) w).setCells (.inl rfl) _ _
  unfold Oper.wpIn
  refine ⟨by simp [Oper.about, ho], ?_⟩
  rw [Oper.semAt_plain F _ _ (by rw [ho]; intro c hc'; cases hc')]
  simp [execOp, ho, hx, hy, hrun, Result.andThen]
  exact hK' _ _ (h _ (row_stored hB hsz) hC (hC.others (fun i hi => ⟨ty, old, by rw [hi]; exact hB⟩)))
theorem wpList_store_row {P : Program} {ops : Array Oper} {rest : List Oper} {op : Oper} {a : Act} {w : World} {Q : Exit → Act → World → Prop} (hgd : op.guard = none) (ty : TypeId) (x y : Operand) (ho : op.op = .store ty x y)
    (b : Nat) (old cs : Array Value) (hB : Blk w b ty old) (hsz : cs.size = old.size) (hi : (P.info? ty).map (·.size) = some cs.size) (h1 : cs.all (·.oneCell') = true) (hx : a.eval x = .pointer (some ⟨b, 0, none⟩)) (hy : a.eval y = .agg cs)
    (h : ∀ w', Blk w' b ty cs → Chg (fun i => i = b) w w' → wpList P ops Q rest (a.put op.dst undef) w') : wpList P ops Q (op :: rest) a w :=
  wpList_plain hgd fun _ hK => wp_store_mid ty x y ho b 0 cs hx hy (hB.there_ 0 cs.size (by simp [hsz])) hi h1 (hK _ _ (h _ (row_stored hB hsz) ((Chg.refl (fun i => i = b) w).setCells (.inl rfl) _ _)))
theorem oneCell_ent (x : Pe.Ent) : (eCells x).all (·.oneCell') = true := by simp [eCells, Value.oneCell']
theorem oneCell_pair (x : Pe.Pair) : (pCells x).all (·.oneCell') = true := by simp [pCells, Value.oneCell']

/-- Ten cells stored one by one. -/
theorem Blk.put10 {w : World} {b : Nat} {t : TypeId} {c0 c1 c2 c3 c4 c5 c6 c7 c8 c9 v0 v1 v2 v3 v4 v5 v6 v7 v8 v9 : Value} (h : Blk w b t #[c0, c1, c2, c3, c4, c5, c6, c7, c8, c9]) : Blk ((((((((((w.setCell ⟨b, 0, none⟩ v0).setCell ⟨b, 1, none⟩ v1).setCell ⟨b, 2, none⟩ v2).setCell ⟨b, 3, none⟩ v3).setCell ⟨b, 4, none⟩ v4).setCell ⟨b, 5, none⟩ v5).setCell ⟨b, 6, none⟩ v6).setCell ⟨b, 7, none⟩ v7).setCell ⟨b, 8, none⟩ v8).setCell ⟨b, 9, none⟩ v9) b t #[v0, v1, v2, v3, v4, v5, v6, v7, v8, v9] ∧ Chg (fun i => i = b) w ((((((((((w.setCell ⟨b, 0, none⟩ v0).setCell ⟨b, 1, none⟩ v1).setCell ⟨b, 2, none⟩ v2).setCell ⟨b, 3, none⟩ v3).setCell ⟨b, 4, none⟩ v4).setCell ⟨b, 5, none⟩ v5).setCell ⟨b, 6, none⟩ v6).setCell ⟨b, 7, none⟩ v7).setCell ⟨b, 8, none⟩ v8).setCell ⟨b, 9, none⟩ v9) := by
  refine ⟨?_, (((((((((((Chg.refl (fun i => i = b) w).setCell (p := ⟨b, 0, none⟩) (.inl rfl) v0).setCell (p := ⟨b, 1, none⟩) (.inl rfl) v1).setCell (p := ⟨b, 2, none⟩) (.inl rfl) v2).setCell (p := ⟨b, 3, none⟩) (.inl rfl) v3).setCell (p := ⟨b, 4, none⟩) (.inl rfl) v4).setCell (p := ⟨b, 5, none⟩) (.inl rfl) v5).setCell (p := ⟨b, 6, none⟩) (.inl rfl) v6).setCell (p := ⟨b, 7, none⟩) (.inl rfl) v7).setCell (p := ⟨b, 8, none⟩) (.inl rfl) v8).setCell (p := ⟨b, 9, none⟩) (.inl rfl) v9)⟩
  have h1 := row_stored (cs := #[v0, v1, v2, v3, v4, v5, v6, v7, v8, v9]) h rfl
  simpa only [World.setCells, Nat.reduceAdd] using h1

/-- An entry stored over another one. -/
theorem wpListIn_store_ent {F : Fence} {nF : Nat} {ops : Array Oper} {rest : List Oper} {op : Oper} {a : Act} {w : World} {Q : Exit → Act → World → Prop} (x0 x : Pe.Ent) (hgd : op.guard = none) (p v : Operand) (ho : op.op = .store 31 p v)
    (b : Nat) (hB : Blk w b 31 (eCells x0)) (hx : a.eval p = .pointer (some ⟨b, 0, none⟩)) (hy : a.eval v = .agg #[.int .i64 x.day, .int .u8 (x.kind : Int), .int .i64 x.since, .int .i64 x.til, .int .i64 x.person, .int .i64 x.place, .int .i64 x.other, .int .i64 x.at_, .int .i64 x.order, .string (bs x.name)])
    (h : ∀ w', Blk w' b 31 (eCells x) → Chg (fun i => i = b) w w' → KeepsOthers w w' → wpListIn F nF Tryz.prog ops Q rest (a.put op.dst undef) w') : wpListIn F nF Tryz.prog ops Q (op :: rest) a w :=
  wpListIn_store_row hgd 31 p v ho b (eCells x0) (eCells x) hB rfl infoEntryN (oneCell_ent x) hx hy h
theorem wpList_store_ent {ops : Array Oper} {rest : List Oper} {op : Oper} {a : Act} {w : World} {Q : Exit → Act → World → Prop} (x0 x : Pe.Ent) (hgd : op.guard = none) (p v : Operand) (ho : op.op = .store 31 p v)
    (b : Nat) (hB : Blk w b 31 (eCells x0)) (hx : a.eval p = .pointer (some ⟨b, 0, none⟩)) (hy : a.eval v = .agg #[.int .i64 x.day, .int .u8 (x.kind : Int), .int .i64 x.since, .int .i64 x.til, .int .i64 x.person, .int .i64 x.place, .int .i64 x.other, .int .i64 x.at_, .int .i64 x.order, .string (bs x.name)])
    (h : ∀ w', Blk w' b 31 (eCells x) → Chg (fun i => i = b) w w' → wpList Tryz.prog ops Q rest (a.put op.dst undef) w') : wpList Tryz.prog ops Q (op :: rest) a w :=
  wpList_store_row hgd 31 p v ho b (eCells x0) (eCells x) hB rfl infoEntryN (oneCell_ent x) hx hy h

end Go.Proofs.YtnphlekailodkaaGreatDoor
