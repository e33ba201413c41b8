/-
  slices.Compact at pairs.
-/
import Derived.Test.YtnphlekailodkaaGreatDoorSp
import Derived.Lib.SlicesCompact
import Derived.Lib.SliceRun
namespace Go.Proofs.YtnphlekailodkaaGreatDoor
open Go.Shelf Go.RowKit Go.Lib Go.Sort

theorem compact_snoc : ∀ (l : List Pe.Pair) (x : Pe.Pair), Pe.compact (l ++ [x]) = if l.getLast? = some x then Pe.compact l else Pe.compact l ++ [x]
  | [], x => by simp [Pe.compact]
  | [y], x => by
    by_cases h : y = x
    · subst h; simp [Pe.compact]
    · simp [Pe.compact, h]
  | y :: z :: r, x => by
    have ih := compact_snoc (z :: r) x
    have e1 : (y :: z :: r) ++ [x] = y :: z :: (r ++ [x]) := rfl
    have e2 : z :: (r ++ [x]) = (z :: r) ++ [x] := rfl
    have hl : (y :: z :: r).getLast? = (z :: r).getLast? := by simp [List.getLast?_cons]
    rw [e1, hl]
    by_cases hyz : y = z
    · rw [Pe.compact, if_pos hyz, e2, ih]
      split <;> (rw [Pe.compact, if_pos hyz])
    · rw [Pe.compact, if_neg hyz, e2, ih]
      split
      · rw [Pe.compact, if_neg hyz]
      · rw [show Pe.compact (y :: z :: r) = y :: Pe.compact (z :: r) by rw [Pe.compact, if_neg hyz]]; rfl
theorem compact_upTo (l : List Pe.Pair) : ∀ m, m ≤ l.length → compactUpTo l.toArray m = Pe.compact (l.take m)
  | 0, _ => by simp [compactUpTo, Pe.compact]
  | m + 1, hm => by
    have ih := compact_upTo l m (by omega)
    have hx : l[m]? = some (l[m]'(by omega)) := List.getElem?_eq_getElem (by omega)
    have hg : l.toArray[m]! = l[m]'(by omega) := by rw [getElem!_pos l.toArray m (by simp; omega)]; simp
    rw [compactUpTo_succ, ih, List.take_add_one, hx, Option.toList_some, compact_snoc]
    by_cases h0 : m = 0
    · subst h0
      have hk : keeps l.toArray 0 = true := by simp [keeps]
      rw [hk, hg]
      simp
    · have hp : l.toArray[m - 1]! = l[m - 1]'(by omega) := by rw [getElem!_pos l.toArray (m - 1) (by simp; omega)]; simp
      have hla : (l.take m).getLast? = some (l[m - 1]'(by omega)) := by
        rw [List.getLast?_take]
        simp [h0]
      rw [hla]
      by_cases he : l[m - 1]'(by omega) = l[m]'(by omega)
      · have hk := keeps_neg (d := l.toArray) (m := m) (by omega) (by rw [hg, hp, he])
        simp [hk, he]
      · have hk := keeps_pos (d := l.toArray) (m := m) (by rw [hg, hp]; exact fun e => he e.symm)
        rw [hk, hg]
        simp [he]
/-- A row of pairs, and what lies behind it. -/
def RowP (w : World) (g : Nat) (R : List Value) (dk : Array Pe.Pair) : Prop := Blk w g 28 (pRow dk.toList ++ R).toArray
theorem RowP.cell {w : World} {g : Nat} {R : List Value} {dk : Array Pe.Pair} (h : RowP w g R dk) {i : Nat} (hi : i < dk.size) :
    w.cell? ⟨g, i * 2, none⟩ = some (.int .i64 dk[i]!.1) ∧ w.cell? ⟨g, i * 2 + 1, none⟩ = some (.int .i64 dk[i]!.2) ∧ w.frozen? ⟨g, i * 2, none⟩ = false ∧ w.frozen? ⟨g, i * 2 + 1, none⟩ = false := by
  have hx : dk.toList[i]? = some dk[i]! := by rw [getElem!_pos dk i hi]; simp [hi]
  have hr := pRow_at hx
  have hl : (pRow dk.toList).length = dk.size * 2 := by rw [pRow_len]; simp
  refine ⟨?_, ?_, Blk.frozen h _, Blk.frozen h _⟩
  · rw [Blk.cell h, List.getElem?_toArray, List.getElem?_append_left (by omega)]; exact hr.1
  · rw [Blk.cell h, List.getElem?_toArray, List.getElem?_append_left (by omega)]; exact hr.2
theorem pRow_set : ∀ (l : List Pe.Pair) (i : Nat) (x : Pe.Pair), ((pRow l).set (i * 2) (.int .i64 x.1)).set (i * 2 + 1) (.int .i64 x.2) = pRow (l.set i x)
  | [], i, x => by simp [pRow]
  | y :: r, 0, x => by simp [pRow_cons]
  | y :: r, i + 1, x => by
    rw [pRow_cons, show (i + 1) * 2 = i * 2 + 1 + 1 from by omega]
    simp only [List.set_cons_succ]
    rw [pRow_set r i x, pRow_cons]
theorem RowP.set {w : World} {g : Nat} {R : List Value} {dk : Array Pe.Pair} (h : RowP w g R dk) {i : Nat} (hi : i < dk.size) (x : Pe.Pair) :
    RowP ((w.setCell ⟨g, i * 2, none⟩ (.int .i64 x.1)).setCell ⟨g, i * 2 + 1, none⟩ (.int .i64 x.2)) g R (dk.setIfInBounds i x) := by
  have h1 := (Blk.put h (i * 2) (.int .i64 x.1)).put (i * 2 + 1) (.int .i64 x.2)
  unfold RowP
  have hl : (pRow dk.toList).length = dk.size * 2 := by rw [pRow_len]; simp
  rw [Array.toList_setIfInBounds, ← pRow_set, ← List.set_append_left _ _ (by simp; omega), ← List.set_append_left _ _ (by omega)]
  simpa using h1

theorem pRow_take : ∀ (l : List Pe.Pair) (k : Nat), (pRow l).take (k * 2) = pRow (l.take k)
  | [], k => by simp [pRow]
  | x :: r, 0 => by simp [pRow]
  | x :: r, k + 1 => by
    rw [pRow_cons, show (k + 1) * 2 = k * 2 + 1 + 1 from by omega, List.take_succ_cons, List.take_succ_cons, pRow_take r k, List.take_succ_cons, pRow_cons]
theorem run_clear_pairs (w : World) (g o m c : Nat) (hm : 0 < m) (ht : w.there g o (m * 2)) : ∃ vs : List Value, vs.length = m * 2 ∧ ∀ ty, (Builtin.clear_ #[46] ty #[.slice (some ⟨g, o, none⟩) m c]).run Tryz.prog w = .ok (.tuple #[]) (w.setCells g o vs) := by
  obtain ⟨vs, hvs⟩ : ∃ vs, vs = (Builtin.zeroCells (Value.agg #[.int .i64 0, .int .i64 0]).cells m).toList := ⟨_, rfl⟩
  have hl : vs.length = m * 2 := by rw [hvs]; simp [Builtin.zeroCells, Value.cells]
  have h1 : ∀ v ∈ vs, v.oneCell' = true := by
    intro v hv
    rw [hvs] at hv
    simp [Builtin.zeroCells, Value.cells] at hv
    obtain ⟨a, _, rfl⟩ := hv
    rcases Nat.mod_two_eq_zero_or_one a with h | h <;> rw [h] <;> rfl
  have hst := run_storeCells_cells (P := Tryz.prog) g o vs 0 w (fun j hj => by have := (ht j (by omega)).1; simpa using this) (fun j hj => by have := (ht j (by omega)).2; simpa using this) h1
  refine ⟨vs, hl, fun ty => ?_⟩
  have hz : ∀ w, (zeroValue 28).run Tryz.prog w = .ok (.agg #[.int .i64 0, .int .i64 0]) w := fun _ => by kernel_rfl
  obtain ⟨m, rfl⟩ : ∃ p, m = p + 1 := ⟨m - 1, by omega⟩
  simp only [Nat.add_zero] at hst
  simp [Builtin.clear_, run_underlying Tryz.underlying46, hz, ← hvs, hst]

set_option maxRecDepth 1000000 in
set_option maxHeartbeats 8000000 in
theorem Compact_calls {W : World} {base : Nat} {v : Value} {l : List Pe.Pair} (h : W.ownsRow base 28 2 v l.length (pRow l)) :
    Calls Tryz.prog 66 #[v] W fun e w' => ∃ v', e = .returned v' ∧ w'.ownsRow base 28 2 v' (Pe.compact l).length (pRow (Pe.compact l)) ∧ Chg (fun i => v.ownBlock = some i) W w' := by
  by_cases h2 : l.length < 2
  · have hc : Pe.compact l = l := by
      match l, h2 with
      | [], _ => rfl
      | [x], _ => rfl
    obtain ⟨A, cap, rfl, hnc, hcm⟩ := own_shape h
    have hd1 : decide ((l.length : Int) < 2) = true := by simp; omega
    rw [hc]
    obtain ⟨n, hn⟩ : ∃ n, n = l.length := ⟨_, rfl⟩
    rw [← hn] at h hd1 ⊢
    have HH := Lib.hid h
    clear h hn
    go_enter Tryz.func66, Tryz.ntmps66
    go_wp2
    go_ret
    exact ⟨_, rfl, HH.out, Chg.refl _ _⟩
  obtain ⟨g, cap, rfl, hbg, hlt, hnc, hcm⟩ := own_form h (by omega)
  obtain ⟨d, hd⟩ : ∃ d, d = l.toArray := ⟨_, rfl⟩
  obtain ⟨n, hn⟩ : ∃ n, n = l.length := ⟨_, rfl⟩
  have hds : d.size = n := by rw [hd, hn]; simp
  obtain ⟨cur, hg, hb2, h1, h3, h4, h5, h6⟩ := own_parts h
  have hrow : RowP W g (cur.toList.drop (l.length * 2)) d := by
    unfold RowP
    rw [hd, List.toList_toArray, ← h5, List.take_append_drop]
    exact hg
  obtain ⟨R, hR⟩ : ∃ R, R = cur.toList.drop (l.length * 2) := ⟨_, rfl⟩
  rw [← hR] at hrow
  have hRl : R.length = cap * 2 - l.length * 2 := by rw [hR, List.length_drop, Array.length_toList, h4]
  rw [← hn] at h2 hnc ⊢
  have HW := Lib.hid (And.intro hrow (And.intro hds (And.intro hd (And.intro hn (And.intro hRl (And.intro hbg hR))))))
  simp only [maxLen] at hcm
  clear h hrow hds hd hn hRl hR hg hb2 h1 h3 h4 h5 h6
  have hd1 : decide ((n : Int) < 2) = false := by simp; omega
  go_enter Tryz.func66, Tryz.ntmps66
  go_wp2
  go_loopg [3] n (fun q s3 wr => ∃ k : Nat, s3 = .int .i64 ((k : Int) + 1) ∧ k + 1 ≤ n ∧ k + q = n ∧ Hid (RowP wr g R d ∧ Chg (fun i => i = g) W wr ∧ ∀ j, j < k + 1 → keeps d j = true))
  case atStart => exact ⟨0, by go_num, by omega, by omega, Lib.hid ⟨HW.out.1, Chg.refl _ _, fun j hj => keeps_lt_one d j (by omega)⟩⟩
  case round =>
    obtain ⟨k, rfl, hk, hq, hI⟩ := hrel
    by_cases hgo : k + 1 < n
    case neg =>
      have hd2 : decide ((k : Int) + 1 < (n : Int)) = false := by simp; omega
      go_wp2
      go_ret
      have hcl : Pe.compact l = l := by
        have h1 := compact_upTo l l.length (Nat.le_refl _)
        rw [List.take_length, ← HW.out.2.2.1, ← HW.out.2.2.2.1] at h1
        rw [← h1, compactUpTo_all d n (fun j hj => hI.out.2.2 j (by omega)), ← HW.out.2.1, range_map_get, HW.out.2.2.1]
      rw [hcl, ← HW.out.2.2.2.1]
      refine ⟨_, rfl, ?_, hI.out.2.1.mono (fun i _ hi => by rw [hi]; rfl)⟩
      have hdl : d.toList = l := by rw [HW.out.2.2.1]
      have hln := HW.out.2.2.2.1
      have hRl := HW.out.2.2.2.2.1
      have hpl : (pRow d.toList).length = n * 2 := by rw [pRow_len, hdl, hln]
      refine own_mk hI.out.1 hbg hnc (by simp only [maxLen]; omega) ?_ ?_ ?_
      · simp only [List.size_toArray, List.length_append, hpl]; omega
      · rw [List.take_append_of_le_length (by omega), List.take_of_length_le (by omega), hdl]
      · rw [pRow_len, hln]
    have hd2 : decide ((k : Int) + 1 < (n : Int)) = true := by simp; omega
    obtain ⟨a0, a1, _, _⟩ := hI.out.1.cell (i := k) (by have := HW.out; omega)
    obtain ⟨b0, b1, _, _⟩ := hI.out.1.cell (i := k + 1) (by have := HW.out; omega)
    obtain ⟨x, hx⟩ : ∃ x, x = d[k]! := ⟨_, rfl⟩
    obtain ⟨y, hy⟩ : ∃ y, y = d[k + 1]! := ⟨_, rfl⟩
    rw [← hx] at a0 a1
    rw [← hy] at b0 b1
    have HX := Lib.hid (And.intro hx hy)
    clear hx hy
    have w1 : IntKind.i64.wrap ((k : Int) + 1 - 1) = (k : Int) := by rw [IntKind.wrap_i64]; omega
    have w2 : 0 ≤ (k : Int) + 1 := by omega
    have w3 : ((k : Int) + 1).toNat = k + 1 := by omega
    have w4 : (k : Int) < (n : Int) := by omega
    have heq : ∀ w0, (binOp .eql 28 (.agg #[.int .i64 y.1, .int .i64 y.2]) (.agg #[.int .i64 x.1, .int .i64 x.2])).run Tryz.prog w0 = .ok (.bool (decide (y = x))) w0 := fun w0 => eql_pair y x w0
    cases hyx : decide (y = x)
    · rw [hyx] at heq
      have HYX := Lib.hid hyx
      clear hyx
      go_wp2_with fail
      go_quiet (fail)
      go_wp2
      go_roundg (gk - 1)
      case measure => omega
      case rel =>
        refine ⟨k + 1, by go_num, by omega, by omega, Lib.hid ⟨hI.out.1.drewN _, hI.out.2.1.drewN _, fun j hj => ?_⟩⟩
        by_cases e : j = k + 1
        · subst e
          refine keeps_pos ?_
          rw [Nat.add_sub_cancel, ← HX.out.1, ← HX.out.2]
          exact of_decide_eq_false HYX.out
        · exact hI.out.2.2 j (by omega)
    · rw [hyx] at heq
      have HYX := Lib.hid hyx
      clear hyx
      go_wp2_with fail
      go_quiet (fail)
      go_wp2
      obtain ⟨W1, hW1⟩ : ∃ W1, W1 = wr.drewN nq := ⟨_, rfl⟩
      have hst : CompInv d (k + 1 + 1) (k + 1) d := CompInv.start (fun j hj => hI.out.2.2 j hj) (keeps_neg (by omega) (by
        rw [Nat.add_sub_cancel, ← HX.out.1, ← HX.out.2]
        exact of_decide_eq_true HYX.out))
      have H1 := Lib.hid (And.intro (show RowP W1 g R d by rw [hW1]; exact hI.out.1.drewN _) (And.intro (show Chg (fun i => i = g) W W1 by rw [hW1]; exact hI.out.2.1.drewN _) hst))
      rw [← hW1]
      clear hW1 hst a0 a1 b0 b1 heq w1 w2 w3 w4
      go_loopg [3, 5] n (fun q s3 s5 w2 => ∃ (kk j : Nat) (dk : Array Pe.Pair), s3 = .int .i64 (kk : Int) ∧ s5 = .int .i64 ((j : Int) + 1) ∧ k + 1 + (j + 1) ≤ n ∧ j + q = n ∧ kk < k + 1 + (j + 1) ∧ Hid (RowP w2 g R dk ∧ Chg (fun i => i = g) W w2 ∧ CompInv d (k + 1 + (j + 1)) kk dk))
      case atStart => exact ⟨k + 1, 0, d, by go_num, by go_num, by omega, by omega, by omega, H1.out⟩
      case round =>
        obtain ⟨kk, j, dk, rfl, rfl, hj, hq2, hkk, hJ⟩ := hrel
        by_cases hgo2 : k + 1 + (j + 1) < n
        case neg =>
          have hd3 : decide ((j : Int) + 1 < ((n - (k + 1) : Nat) : Int)) = false := by simp; omega
          have hdsz : dk.size = n := by rw [hJ.out.2.2.size]; exact HW.out.2.1
          have hkn : kk < n := by omega
          have hRl := HW.out.2.2.2.2.1
          have hln := HW.out.2.2.2.1
          have hsz : (pRow dk.toList ++ R).toArray.size = cap * 2 := by
            simp only [List.size_toArray, List.length_append, pRow_len, Array.length_toList]
            omega
          obtain ⟨vs, hvl, hcl⟩ := run_clear_pairs wr g (kk * 2) (n - kk) (cap - kk) (by omega) (Blk.there_ hJ.out.1 _ _ (by rw [hsz]; omega))
          have HV := Lib.hid (And.intro hvl (And.intro hsz (And.intro hdsz (show (pRow dk.toList ++ R).length = cap * 2 by simpa using hsz))))
          clear hvl hsz hdsz hRl hln
          have hk2 : (kk : Int) ≤ (n : Int) := by omega
          go_wp2
          go_ret
          have hend : k + 1 + (j + 1) = n := by omega
          have hI2 := hJ.out.2.2
          rw [hend] at hI2
          have hcu : Pe.compact l = compactUpTo d n := by
            have h1 := compact_upTo l l.length (Nat.le_refl _)
            rw [List.take_length, ← HW.out.2.2.1, ← HW.out.2.2.2.1] at h1
            exact h1.symm
          have hdk : dk.toList.take kk = compactUpTo d n := by
            apply List.ext_getElem?
            intro t
            by_cases ht : t < kk
            · rw [hI2.low t ht, List.getElem?_take, if_pos ht, Array.getElem?_toList, getElem!_pos dk t (by have := HV.out.2.2.1; omega)]
              exact Array.getElem?_eq_getElem _
            · rw [List.getElem?_eq_none (by simp; omega), List.getElem?_eq_none (by rw [hI2.len]; omega)]
          rw [hcu, hI2.len]
          refine ⟨_, rfl, own_mk (Blk.setCells hJ.out.1 (o := kk * 2) (vs := vs) (by rw [HV.out.2.1, HV.out.1]; omega)) hbg (by omega) (by simp only [maxLen]; omega) ?_ ?_ (by rw [pRow_len, hI2.len]), (hJ.out.2.1.setCells (.inl rfl) _ _).mono (fun i _ hi => by rw [hi]; rfl)⟩
          · have := length_splice (pRow dk.toList ++ R) (kk * 2) vs (by rw [HV.out.2.2.2, HV.out.1]; omega)
            simp only [List.size_toArray]
            rw [this, HV.out.2.2.2]
          · simp only [splice]
            have hkl : ((pRow dk.toList ++ R).take (kk * 2)).length = kk * 2 := by rw [List.length_take, HV.out.2.2.2]; omega
            rw [List.take_append_of_le_length (by omega), List.take_of_length_le (by omega), List.take_append_of_le_length (by rw [pRow_len, Array.length_toList, HV.out.2.2.1]; omega), pRow_take, hdk]
        have hd3 : decide ((j : Int) + 1 < ((n - (k + 1) : Nat) : Int)) = true := by simp; omega
        have hds : dk.size = n := by rw [hJ.out.2.2.size]; exact HW.out.2.1
        obtain ⟨a0, a1, _, _⟩ := hJ.out.1.cell (i := k + 1 + j) (by omega)
        obtain ⟨b0, b1, _, _⟩ := hJ.out.1.cell (i := k + 1 + (j + 1)) (by omega)
        obtain ⟨c0, c1, f0, f1⟩ := hJ.out.1.cell (i := kk) (by omega)
        rw [hJ.out.2.2.high (k + 1 + j) (by omega)] at a0 a1
        rw [hJ.out.2.2.high (k + 1 + (j + 1)) (by omega)] at b0 b1
        obtain ⟨u, hu⟩ : ∃ u, u = d[k + 1 + j]! := ⟨_, rfl⟩
        obtain ⟨v, hv⟩ : ∃ v, v = d[k + 1 + (j + 1)]! := ⟨_, rfl⟩
        obtain ⟨o, ho⟩ : ∃ o, o = dk[kk]! := ⟨_, rfl⟩
        rw [← hu] at a0 a1
        rw [← hv] at b0 b1
        rw [← ho] at c0 c1
        have HU := Lib.hid (And.intro hu (And.intro hv hds))
        clear hu hv ho hds
        rw [show (k + 1 + j) * 2 = (k + 1) * 2 + j * 2 from by omega] at a0 a1
        rw [show (k + 1 + (j + 1)) * 2 = (k + 1) * 2 + (j + 1) * 2 from by omega] at b0 b1
        have w1 : IntKind.i64.wrap ((j : Int) + 1 - 1) = (j : Int) := by rw [IntKind.wrap_i64]; omega
        have w2 : 0 ≤ (j : Int) + 1 := by omega
        have w3 : ((j : Int) + 1).toNat = j + 1 := by omega
        have w4 : (j : Int) < ((n - (k + 1) : Nat) : Int) := by omega
        have w5 : (kk : Int) < (n : Int) := by omega
        have hnq : ∀ w0, (binOp .neq 28 (.agg #[.int .i64 v.1, .int .i64 v.2]) (.agg #[.int .i64 u.1, .int .i64 u.2])).run Tryz.prog w0 = .ok (.bool (!decide (v = u))) w0 := fun w0 => neq_pair v u w0
        cases hvu : decide (v = u)
        · rw [hvu] at hnq
          have HVU := Lib.hid hvu
          clear hvu
          go_wp2_with fail
          go_quiet (fail)
          go_wp2
          go_roundg (gk - 1)
          case measure => omega
          case rel =>
            have hset := RowP.set (w := wr.drewN nq) hJ.out.1 (i := kk) (by have := HU.out.2.2; omega) v
            refine ⟨kk + 1, j + 1, dk.setIfInBounds kk v, by go_num, by go_num, by omega, by omega, by omega, Lib.hid ⟨hset, ?_, ?_⟩⟩
            · exact ((hJ.out.2.1.drewN nq).setCell (p := ⟨g, kk * 2, none⟩) (.inl rfl) _).setCell (p := ⟨g, kk * 2 + 1, none⟩) (.inl rfl) _
            · have h9 := hJ.out.2.2.keep (by rw [HW.out.2.1]; exact hgo2) (keeps_pos (by
                rw [← HU.out.2.1, show k + 1 + (j + 1) - 1 = k + 1 + j from by omega, ← HU.out.1]
                exact of_decide_eq_false HVU.out))
              rw [← HU.out.2.1] at h9
              exact h9
        · rw [hvu] at hnq
          have HVU := Lib.hid hvu
          clear hvu
          go_wp2_with fail
          go_quiet (fail)
          go_wp2
          go_roundg (gk - 1)
          case measure => omega
          case rel =>
            refine ⟨kk, j + 1, dk, by go_num, by go_num, by omega, by omega, by omega, Lib.hid ⟨hJ.out.1.drewN _, hJ.out.2.1.drewN _, hJ.out.2.2.skip (keeps_neg (by omega) (by
              rw [← HU.out.2.1, show k + 1 + (j + 1) - 1 = k + 1 + j from by omega, ← HU.out.1]
              exact of_decide_eq_true HVU.out))⟩⟩

end Go.Proofs.YtnphlekailodkaaGreatDoor
