/-
  What was entered so far, in memory; the walk of add.
-/
import Derived.Test.YtnphlekailodkaaGreatDoorPw2
import Derived.Test.YtnphlekailodkaaGreatDoorMs
import Derived.Test.YtnphlekailodkaaGreatDoorOrd
import Derived.Deep.QuietTactic
import Derived.BigQuiet
import Derived.Deep.CutBlock
namespace Go.Proofs.YtnphlekailodkaaGreatDoor
open Go.RowKit

theorem zeroBool (w : World) : (zeroValue 4).run Tryz.prog w = .ok (.bool false) w := by kernel_rfl
/-- A set of numbers in memory. -/
abbrev ISet (w : World) (b n : Nat) (S : Int → Bool) : Prop := SetAt Tryz.prog 3 4 w b n S
theorem ISet.look {w : World} {b n : Nat} {S : Int → Bool} (h : ISet w b n S) (x : Int) (hx : (Lit.int .i64 x).wf = true) : (Instr.lookup 169 (.map (some b)) (.int .i64 x) false).run Tryz.prog w = .ok (.bool (S x)) w :=
  run_lookup_set w Tryz.underlying3 Tryz.underlying4 Tryz.underlying169 (zeroBool w) h x hx

theorem below_drewN (w : World) (q : Nat) : Below w.heap.size w (w.drewN q) := Chg.below ((Chg.refl (fun _ => False) w).drewN q) (fun _ h => h.elim) (Nat.le_refl _)
/-- The day of the last entry of a list. -/
def lastDay (pre : List Pe.Ent) : Int := (pre.getLast?.getD Pe.zero).day
/-- What was entered so far: the struct and its four sets. -/
structure KS (w : World) (base kb b1 b2 b3 b4 : Nat) (n : Nat) (ld : Int) (m : Nat) (S1 S2 S3 S4 : Int → Bool) : Prop where
  blk : Blk w kb 171 #[.map (some b1), .map (some b2), .map (some b3), .map (some b4), .int .i64 (n : Int), .int .i64 ld]
  low : base ≤ kb ∧ base ≤ b1 ∧ base ≤ b2 ∧ base ≤ b3 ∧ base ≤ b4
  apart : b1 ≠ b2 ∧ b1 ≠ b3 ∧ b1 ≠ b4 ∧ b2 ≠ b3 ∧ b2 ≠ b4 ∧ b3 ≠ b4
  kap : kb ≠ b1 ∧ kb ≠ b2 ∧ kb ≠ b3 ∧ kb ≠ b4
  s1 : ISet w b1 m S1
  s2 : ISet w b2 m S2
  s3 : ISet w b3 m S3
  s4 : ISet w b4 m S4
/-- .. of the entries of a list. -/
abbrev KB (w : World) (base kb b1 b2 b3 b4 : Nat) (pre : List Pe.Ent) : Prop := KS w base kb b1 b2 b3 b4 pre.length (lastDay pre) pre.length (Pe.named pre) (Pe.died pre) (Pe.ordered pre) (Pe.called pre)
section
variable {w w' : World} {base kb b1 b2 b3 b4 n m : Nat} {ld : Int} {S1 S2 S3 S4 T1 T2 T3 T4 : Int → Bool}
theorem KS.below (h : KS w base kb b1 b2 b3 b4 n ld m S1 S2 S3 S4) (hb : Below w.heap.size w w') : KS w' base kb b1 b2 b3 b4 n ld m S1 S2 S3 S4 :=
  ⟨h.blk.below hb h.blk.lt, h.low, h.apart, h.kap, h.s1.of_heap (hb.block _ h.s1.lt), h.s2.of_heap (hb.block _ h.s2.lt), h.s3.of_heap (hb.block _ h.s3.lt), h.s4.of_heap (hb.block _ h.s4.lt)⟩
theorem KS.heap (h : KS w base kb b1 b2 b3 b4 n ld m S1 S2 S3 S4) (he : w'.heap = w.heap) : KS w' base kb b1 b2 b3 b4 n ld m S1 S2 S3 S4 :=
  ⟨by unfold Blk; rw [he]; exact h.blk, h.low, h.apart, h.kap, h.s1.of_heap (by rw [he]), h.s2.of_heap (by rw [he]), h.s3.of_heap (by rw [he]), h.s4.of_heap (by rw [he])⟩
theorem KS.same (h : KS w base kb b1 b2 b3 b4 n ld m S1 S2 S3 S4) (he : w'.heap = w.heap) (e1 : ∀ z, S1 z = T1 z) (e2 : ∀ z, S2 z = T2 z) (e3 : ∀ z, S3 z = T3 z) (e4 : ∀ z, S4 z = T4 z) : KS w' base kb b1 b2 b3 b4 n ld (m + 1) T1 T2 T3 T4 :=
  have h := h.heap he
  ⟨h.blk, h.low, h.apart, h.kap, (h.s1.mono (Nat.le_succ _)).congr e1, (h.s2.mono (Nat.le_succ _)).congr e2, (h.s3.mono (Nat.le_succ _)).congr e3, (h.s4.mono (Nat.le_succ _)).congr e4⟩
end
theorem Blk.grown {w w' : World} {g : Nat} {t : TypeId} {cs : Array Value} {row : Option Nat} (h : Blk w g t cs) (hg : w.grownBy w' row) (hne : some g ≠ row) : Blk w' g t cs := (hg.block g h.lt hne).trans h
theorem Blk.heap {w w' : World} {g : Nat} {t : TypeId} {cs : Array Value} (h : Blk w g t cs) (he : w'.heap = w.heap) : Blk w' g t cs := by unfold Blk; rw [he]; exact h
/-- A block of cells is none of a map. -/
theorem SetAt.ne_blk {P : Program} {ki kb : TypeId} {w : World} {b n g : Nat} {S : Int → Bool} {t : TypeId} {cs : Array Value} (h : SetAt P ki kb w b n S) (hg : Blk w g t cs) : g ≠ b := by
  rintro rfl
  obtain ⟨D, ⟨es, clock, hb, _⟩, _⟩ := h
  unfold Blk at hg
  rw [hg] at hb
  cases hb
/-! What a store into one of the sets leaves. -/
theorem KS.set1 {w0 w w' : World} {base kb b1 b2 b3 b4 n m : Nat} {ld : Int} {S1 S2 S3 S4 T1 T2 T3 T4 : Int → Bool} (h0 : KS w0 base kb b1 b2 b3 b4 n ld m S1 S2 S3 S4) {T : Int → Bool} (hs : ISet w' b1 (m + 1) T) (hg : w.grownBy w' (some b1)) (he : w.heap = w0.heap) (e1 : ∀ z, T z = T1 z) (e2 : ∀ z, S2 z = T2 z) (e3 : ∀ z, S3 z = T3 z) (e4 : ∀ z, S4 z = T4 z) : KS w' base kb b1 b2 b3 b4 n ld (m + 1) T1 T2 T3 T4 :=
  have h := h0.heap he
  ⟨h.blk.grown hg (fun e => h.kap.1 (by injection e)), h.low, h.apart, h.kap, hs.congr e1, ((h.s2.kept hg (fun e => h.apart.1 (by injection e with e; exact e.symm))).mono (Nat.le_succ _)).congr e2, ((h.s3.kept hg (fun e => h.apart.2.1 (by injection e with e; exact e.symm))).mono (Nat.le_succ _)).congr e3, ((h.s4.kept hg (fun e => h.apart.2.2.1 (by injection e with e; exact e.symm))).mono (Nat.le_succ _)).congr e4⟩
theorem KS.set2 {w0 w w' : World} {base kb b1 b2 b3 b4 n m : Nat} {ld : Int} {S1 S2 S3 S4 T1 T2 T3 T4 : Int → Bool} (h0 : KS w0 base kb b1 b2 b3 b4 n ld m S1 S2 S3 S4) {T : Int → Bool} (hs : ISet w' b2 (m + 1) T) (hg : w.grownBy w' (some b2)) (he : w.heap = w0.heap) (e2 : ∀ z, T z = T2 z) (e1 : ∀ z, S1 z = T1 z) (e3 : ∀ z, S3 z = T3 z) (e4 : ∀ z, S4 z = T4 z) : KS w' base kb b1 b2 b3 b4 n ld (m + 1) T1 T2 T3 T4 :=
  have h := h0.heap he
  ⟨h.blk.grown hg (fun e => h.kap.2.1 (by injection e)), h.low, h.apart, h.kap, ((h.s1.kept hg (fun e => h.apart.1 (by injection e))).mono (Nat.le_succ _)).congr e1, hs.congr e2, ((h.s3.kept hg (fun e => h.apart.2.2.2.1 (by injection e with e; exact e.symm))).mono (Nat.le_succ _)).congr e3, ((h.s4.kept hg (fun e => h.apart.2.2.2.2.1 (by injection e with e; exact e.symm))).mono (Nat.le_succ _)).congr e4⟩
theorem KS.set3 {w0 w w' : World} {base kb b1 b2 b3 b4 n m : Nat} {ld : Int} {S1 S2 S3 S4 T1 T2 T3 T4 : Int → Bool} (h0 : KS w0 base kb b1 b2 b3 b4 n ld m S1 S2 S3 S4) {T : Int → Bool} (hs : ISet w' b3 (m + 1) T) (hg : w.grownBy w' (some b3)) (he : w.heap = w0.heap) (e3 : ∀ z, T z = T3 z) (e1 : ∀ z, S1 z = T1 z) (e2 : ∀ z, S2 z = T2 z) (e4 : ∀ z, S4 z = T4 z) : KS w' base kb b1 b2 b3 b4 n ld (m + 1) T1 T2 T3 T4 :=
  have h := h0.heap he
  ⟨h.blk.grown hg (fun e => h.kap.2.2.1 (by injection e)), h.low, h.apart, h.kap, ((h.s1.kept hg (fun e => h.apart.2.1 (by injection e))).mono (Nat.le_succ _)).congr e1, ((h.s2.kept hg (fun e => h.apart.2.2.2.1 (by injection e))).mono (Nat.le_succ _)).congr e2, hs.congr e3, ((h.s4.kept hg (fun e => h.apart.2.2.2.2.2 (by injection e with e; exact e.symm))).mono (Nat.le_succ _)).congr e4⟩
theorem KS.set4 {w0 w w' : World} {base kb b1 b2 b3 b4 n m : Nat} {ld : Int} {S1 S2 S3 S4 T1 T2 T3 T4 : Int → Bool} (h0 : KS w0 base kb b1 b2 b3 b4 n ld m S1 S2 S3 S4) {T : Int → Bool} (hs : ISet w' b4 (m + 1) T) (hg : w.grownBy w' (some b4)) (he : w.heap = w0.heap) (e4 : ∀ z, T z = T4 z) (e1 : ∀ z, S1 z = T1 z) (e2 : ∀ z, S2 z = T2 z) (e3 : ∀ z, S3 z = T3 z) : KS w' base kb b1 b2 b3 b4 n ld (m + 1) T1 T2 T3 T4 :=
  have h := h0.heap he
  ⟨h.blk.grown hg (fun e => h.kap.2.2.2 (by injection e)), h.low, h.apart, h.kap, ((h.s1.kept hg (fun e => h.apart.2.2.1 (by injection e))).mono (Nat.le_succ _)).congr e1, ((h.s2.kept hg (fun e => h.apart.2.2.2.2.1 (by injection e))).mono (Nat.le_succ _)).congr e2, ((h.s3.kept hg (fun e => h.apart.2.2.2.2.2 (by injection e))).mono (Nat.le_succ _)).congr e3, hs.congr e4⟩
theorem wp_store_set {P : Program} {ki kb tm : TypeId} (w : World) {o : Oper} {a : Act} {K : Act → World → Prop} {Q : Exit → Act → World → Prop} (m x v : Operand) (hop : o.op = Op.mapUpdate tm m x v) (hi : P.underlying ki = some (.int .i64)) (hb : P.underlying kb = some .bool) (ht : P.underlying tm = some (.map ki kb)) (b n : Nat) (S : Int → Bool)
    (hm : a.eval m = .map (some b)) (hown : SetAt P ki kb w b n S) (hn : n < maxLen) (y : Int) (hx : a.eval x = .int .i64 y) (hv : a.eval v = .bool true) (hy : (Lit.int .i64 y).wf = true)
    (hK : ∀ w', SetAt P ki kb w' b (n + 1) (fun z => z == y || S z) → w.grownBy w' (some b) → K (a.put o.dst undef) w') : o.wp P a w K Q := by
  obtain ⟨w', hrun, r1, r2⟩ := run_store_set w hi hb ht hown hn y hy
  unfold Oper.wp
  simp [execOp, hop, hm, hx, hv, hrun, Result.andThen]
  exact hK w' r1 r2

/-- The numbers of an entry fit. -/
structure EOk (x : Pe.Ent) : Prop where
  kind : x.kind < 256
  person : (Lit.int .i64 x.person).wf = true
  other : (Lit.int .i64 x.other).wf = true
  order : (Lit.int .i64 x.order).wf = true
  day : (Lit.int .i64 x.day).wf = true
  name : x.name.length ≤ 9223372036854775807
theorem named_snoc (pre : List Pe.Ent) (x : Pe.Ent) (p : Int) : Pe.named (pre ++ [x]) p = (Pe.named pre p || (x.kind == 1 && x.person == p)) := by simp [Pe.named]
theorem died_snoc (pre : List Pe.Ent) (x : Pe.Ent) (p : Int) : Pe.died (pre ++ [x]) p = (Pe.died pre p || (x.kind == 3 && x.person == p)) := by simp [Pe.died]
theorem ordered_snoc (pre : List Pe.Ent) (x : Pe.Ent) (p : Int) : Pe.ordered (pre ++ [x]) p = (Pe.ordered pre p || (x.kind == 5 && x.order == p)) := by simp [Pe.ordered]
theorem called_snoc (pre : List Pe.Ent) (x : Pe.Ent) (p : Int) : Pe.called (pre ++ [x]) p = (Pe.called pre p || (x.kind == 6 && x.order == p)) := by simp [Pe.called]
theorem lastDay_snoc (pre : List Pe.Ent) (x : Pe.Ent) : lastDay (pre ++ [x]) = x.day := by simp [lastDay]

set_option maxRecDepth 1000000 in
set_option maxHeartbeats 4000000 in
theorem add_calls {w : World} {base kb b1 b2 b3 b4 : Nat} {pre : List Pe.Ent} (x : Pe.Ent) (h : KB w base kb b1 b2 b3 b4 pre) (hx : EOk x) (hb : base ≤ w.heap.size) (hp : pre.length ≤ 400) :
    Calls Tryz.prog 148 #[.pointer (some ⟨kb, 0, none⟩), .agg (eCells x)] w fun e w' => e = .returned (.int .i64 (Pe.next pre x)) ∧ Below base w w' ∧ (Pe.next pre x = 0 → KB w' base kb b1 b2 b3 b4 (pre ++ [x])) := by
  obtain ⟨f, hf⟩ : ∃ f, f = Pe.formed x := ⟨_, rfl⟩
  have hfc := fun w0 => formed_calls x hx.name w0
  have H := Lib.hid (And.intro h (And.intro hx (And.intro hb (And.intro hp hf))))
  rw [← hf] at hfc
  have HFC := Lib.hid hfc
  clear h hx hb hp hf hfc
  go_enter Tryz.func148, Tryz.ntmps148
  unfold eCells
  go_wp2_with fail
  refine (HFC.out _).mono ?_
  rintro e w1 ⟨rfl, hB1⟩
  obtain ⟨ex, hex⟩ : ∃ ex, ex = w.heap.size := ⟨_, rfl⟩
  rw [← hex]
  have hW0 : Below w.heap.size w (w.alloc (.cells (eCells x) 31)) := (Below.refl _ w).alloc (Nat.le_refl _) _
  have hW1 : Below w.heap.size w w1 := hW0.trans (hB1.mono (by simp))
  have hK1 : KB w1 base kb b1 b2 b3 b4 pre := H.out.1.below hW1
  have hE1 : Blk w1 ex 31 (eCells x) := by rw [hex]; exact (Blk.fresh w 31 (eCells x)).below hB1 (by simp)
  have e0 : w1.cell? ⟨ex, 0, none⟩ = some (.int .i64 x.day) := hE1.cell 0
  have e1 : w1.cell? ⟨ex, 1, none⟩ = some (.int .u8 (x.kind : Int)) := hE1.cell 1
  have e4 : w1.cell? ⟨ex, 4, none⟩ = some (.int .i64 x.person) := hE1.cell 4
  have e6 : w1.cell? ⟨ex, 6, none⟩ = some (.int .i64 x.other) := hE1.cell 6
  have e8 : w1.cell? ⟨ex, 8, none⟩ = some (.int .i64 x.order) := hE1.cell 8
  obtain ⟨n, hn⟩ : ∃ n, n = pre.length := ⟨_, rfl⟩
  obtain ⟨ld, hld⟩ : ∃ ld, ld = lastDay pre := ⟨_, rfl⟩
  have k0 : w1.cell? ⟨kb, 0, none⟩ = some (.map (some b1)) := hK1.blk.cell 0
  have k1 : w1.cell? ⟨kb, 1, none⟩ = some (.map (some b2)) := hK1.blk.cell 1
  have k2 : w1.cell? ⟨kb, 2, none⟩ = some (.map (some b3)) := hK1.blk.cell 2
  have k3 : w1.cell? ⟨kb, 3, none⟩ = some (.map (some b4)) := hK1.blk.cell 3
  have k4 : w1.cell? ⟨kb, 4, none⟩ = some (.int .i64 (n : Int)) := by rw [hn]; exact hK1.blk.cell 4
  have k5 : w1.cell? ⟨kb, 5, none⟩ = some (.int .i64 ld) := by rw [hld]; exact hK1.blk.cell 5
  have hn4 : n ≤ 400 := by rw [hn]; exact H.out.2.2.2.1
  have H1 := Lib.hid (And.intro hW1 (And.intro hK1 (And.intro hE1 (And.intro hn (And.intro hld hex)))))
  clear hW0 hW1 hK1 hE1 hn hld hex hB1
  have hbel : Below base w w1 := H1.out.1.mono H.out.2.2.1
  have HBEL := Lib.hid hbel
  clear hbel
  by_cases hf0 : f = 0
  case neg =>
    have hd1 : (f != 0) = true := by simpa using hf0
    have HF0 := Lib.hid hf0
    clear hf0
    go_wp2
    go_ret
    have hnx : Pe.next pre x = f := by unfold Pe.next; rw [← H.out.2.2.2.2, if_pos HF0.out]
    exact ⟨by rw [hnx]; rfl, HBEL.out, fun h => absurd (hnx ▸ h) HF0.out⟩
  subst hf0
  by_cases h400 : n = 400
  · have hd2 : ((n : Int) == 400) = true := by rw [h400]; rfl
    have H400 := Lib.hid h400
    clear h400
    go_wp2
    go_ret
    have hnx : Pe.next pre x = 2 := by
      unfold Pe.next
      rw [← H.out.2.2.2.2, if_neg (by simp), if_pos (by rw [← H1.out.2.2.2.1]; exact H400.out)]
    exact ⟨by rw [hnx]; rfl, HBEL.out, fun h => by rw [hnx] at h; cases h⟩
  have hd2 : ((n : Int) == 400) = false := by simp; omega
  have H400 := Lib.hid h400
  clear h400
  obtain ⟨tb, htb⟩ : ∃ tb, tb = (decide (0 < n) && decide (x.day < ld)) := ⟨_, rfl⟩
  have HTB := Lib.hid htb
  clear htb
  go_upto_region 6 with fail
  go_cut [29] (fun s29 wx => s29 = .bool tb ∧ Below w1.heap.size w1 wx)
  case first =>
    by_cases hn0 : 0 < n
    · have hd3 : decide ((0 : Int) < (n : Int)) = true := by simp; omega
      have hd3' : decide (0 < n) = true := by simpa using hn0
      cases hdl : decide (x.day < ld)
      all_goals
        go_quiet (fail)
        go_wp2_with fail
        go_meet
        exact ⟨by rw [HTB.out, hd3', hdl]; rfl, below_drewN _ _⟩
    · have hd3 : decide ((0 : Int) < (n : Int)) = false := by simp; omega
      have hd3' : decide (0 < n) = false := by simpa using hn0
      go_quiet (fail)
      go_wp2_with fail
      go_meet
      exact ⟨by rw [HTB.out, hd3']; rfl, below_drewN _ _⟩
  case rest =>
  obtain ⟨rfl, hB2⟩ := hcut
  obtain ⟨wB, rfl⟩ : ∃ wB : World, wB = wc := ⟨_, rfl⟩
  have hK2 := H1.out.2.1.below hB2
  have hE2 := H1.out.2.2.1.below hB2 H1.out.2.2.1.lt
  have H2 := Lib.hid (And.intro hK2 (And.intro hE2 (H1.out.1.trans (hB2.mono H1.out.1.size))))
  clear hK2 hE2 hB2 e0 e1 e4 e6 e8 k0 k1 k2 k3 k4 k5
  apply_assumption
  cases tb
  case true =>
    go_wp2
    go_ret
    have hnx : Pe.next pre x = 7 := by
      have h1 := HTB.out
      rw [eq_comm, Bool.and_eq_true, decide_eq_true_eq, decide_eq_true_eq] at h1
      unfold Pe.next
      rw [← H.out.2.2.2.2, if_neg (by simp), if_neg (by rw [← H1.out.2.2.2.1]; exact H400.out), if_pos]
      refine ⟨fun e => ?_, ?_⟩
      · have := H1.out.2.2.2.1; rw [e] at this; simp at this; omega
      · have := H1.out.2.2.2.2.1; rw [this] at h1; exact h1.2
    exact ⟨by rw [hnx]; rfl, H2.out.2.2.mono H.out.2.2.1, fun h => by rw [hnx] at h; cases h⟩
  obtain ⟨vb, hvb⟩ : ∃ vb, vb = ((x.kind : Int) != 1 && ((x.person != 0 && !Pe.named pre x.person) || (x.other != 0 && !Pe.named pre x.other))) := ⟨_, rfl⟩
  have HVB := Lib.hid hvb
  clear hvb
  have e1 : wB.cell? ⟨ex, 1, none⟩ = some (.int .u8 (x.kind : Int)) := H2.out.2.1.cell 1
  have e4 : wB.cell? ⟨ex, 4, none⟩ = some (.int .i64 x.person) := H2.out.2.1.cell 4
  have e6 : wB.cell? ⟨ex, 6, none⟩ = some (.int .i64 x.other) := H2.out.2.1.cell 6
  have k0 : wB.cell? ⟨kb, 0, none⟩ = some (.map (some b1)) := H2.out.1.blk.cell 0
  have lp : ∀ q, (Instr.lookup 169 (.map (some b1)) (.int .i64 x.person) false).run Tryz.prog (wB.drewN q) = .ok (.bool (Pe.named pre x.person)) (wB.drewN q) := fun q => ISet.look (H2.out.1.s1.of_heap (w' := wB.drewN q) rfl) _ H.out.2.1.person
  have lo : ∀ q, (Instr.lookup 169 (.map (some b1)) (.int .i64 x.other) false).run Tryz.prog (wB.drewN q) = .ok (.bool (Pe.named pre x.other)) (wB.drewN q) := fun q => ISet.look (H2.out.1.s1.of_heap (w' := wB.drewN q) rfl) _ H.out.2.1.other
  go_upto_region 8 with fail
  go_cut [62] (fun s62 wx => s62 = .bool vb ∧ Below wB.heap.size wB wx)
  case first =>
    cases h1 : ((x.kind : Int) != 1)
    · go_quiet (fail)
      go_wp2_with fail
      go_meet
      exact ⟨by rw [HVB.out, h1]; rfl, below_drewN _ _⟩
    · cases h2 : (x.person != 0) <;> cases h3 : Pe.named pre x.person <;> cases h4 : (x.other != 0) <;> cases h5 : Pe.named pre x.other
      all_goals
        go_quiet (fail)
        go_wp2_with fail
        go_meet
        exact ⟨by rw [HVB.out]; simp [h1, h2, h3, h4, h5], below_drewN _ _⟩
  case rest =>
  obtain ⟨rfl, hB3⟩ := hcut
  have hK3 := H2.out.1.below hB3
  have hE3 := H2.out.2.1.below hB3 H2.out.2.1.lt
  have H3 := Lib.hid (And.intro hK3 (And.intro hE3 (H2.out.2.2.trans (hB3.mono H2.out.2.2.size))))
  clear hK3 hE3 hB3 e1 e4 e6 k0 lp lo
  have hgo : (Pe.next pre x = if x.kind ≠ 1 ∧ ((x.person ≠ 0 ∧ Pe.named pre x.person = false) ∨ (x.other ≠ 0 ∧ Pe.named pre x.other = false)) then 5
      else if x.kind = 3 ∧ Pe.died pre x.person = true then 6
      else if x.kind = 5 ∧ Pe.ordered pre x.order = true then 6
      else if x.kind = 6 ∧ Pe.ordered pre x.order = false then 5
      else if x.kind = 6 ∧ Pe.called pre x.order = true then 6
      else 0) := by
    have h1 := HTB.out
    rw [eq_comm, Bool.and_eq_false_iff, decide_eq_false_iff_not, decide_eq_false_iff_not] at h1
    conv => lhs; unfold Pe.next
    rw [← H.out.2.2.2.2, if_neg (by simp), if_neg (by rw [← H1.out.2.2.2.1]; exact H400.out), if_neg]
    rintro ⟨h2, h3⟩
    rcases h1 with h1 | h1
    · have := H1.out.2.2.2.1
      have h4 := List.length_pos_iff.2 h2
      omega
    · exact h1 (by rw [H1.out.2.2.2.2.1]; exact h3)
  have hvb' : vb = true ↔ (x.kind ≠ 1 ∧ ((x.person ≠ 0 ∧ Pe.named pre x.person = false) ∨ (x.other ≠ 0 ∧ Pe.named pre x.other = false))) := by
    rw [HVB.out]
    simp only [Bool.and_eq_true, Bool.or_eq_true, bne_iff_ne, Bool.not_eq_true']
    have : ((x.kind : Int) ≠ 1) ↔ x.kind ≠ 1 := by omega
    rw [this]
  have HGO := Lib.hid (And.intro hgo hvb')
  clear hgo hvb' HVB
  apply_assumption
  cases vb
  case true =>
    go_wp2
    go_ret
    have hnx : Pe.next pre x = 5 := by rw [HGO.out.1, if_pos (HGO.out.2.1 (by first | trivial | rfl))]
    exact ⟨by rw [hnx]; rfl, H3.out.2.2.mono H.out.2.2.1, fun h => by rw [hnx] at h; cases h⟩
  have hgo2 := HGO.out.1
  rw [if_neg (fun h => by have := HGO.out.2.2 h; cases this)] at hgo2
  have HG := Lib.hid hgo2
  clear hgo2 HGO
  have e0 : wc.cell? ⟨ex, 0, none⟩ = some (.int .i64 x.day) := H3.out.2.1.cell 0
  have e1 : wc.cell? ⟨ex, 1, none⟩ = some (.int .u8 (x.kind : Int)) := H3.out.2.1.cell 1
  have e4 : wc.cell? ⟨ex, 4, none⟩ = some (.int .i64 x.person) := H3.out.2.1.cell 4
  have e8 : wc.cell? ⟨ex, 8, none⟩ = some (.int .i64 x.order) := H3.out.2.1.cell 8
  have k0 : wc.cell? ⟨kb, 0, none⟩ = some (.map (some b1)) := H3.out.1.blk.cell 0
  have k1 : wc.cell? ⟨kb, 1, none⟩ = some (.map (some b2)) := H3.out.1.blk.cell 1
  have k2 : wc.cell? ⟨kb, 2, none⟩ = some (.map (some b3)) := H3.out.1.blk.cell 2
  have k3 : wc.cell? ⟨kb, 3, none⟩ = some (.map (some b4)) := H3.out.1.blk.cell 3
  have k4 : wc.cell? ⟨kb, 4, none⟩ = some (.int .i64 (n : Int)) := by rw [H1.out.2.2.2.1]; exact H3.out.1.blk.cell 4
  have k5 : wc.cell? ⟨kb, 5, none⟩ = some (.int .i64 ld) := by rw [H1.out.2.2.2.2.1]; exact H3.out.1.blk.cell 5
  go_upto_block 0 with fail
  go_cut [] (fun wx => Hid (KS wx base kb b1 b2 b3 b4 pre.length (lastDay pre) (pre.length + 1) (Pe.named (pre ++ [x])) (Pe.died (pre ++ [x])) (Pe.ordered (pre ++ [x])) (Pe.called (pre ++ [x])) ∧ Blk wx ex 31 (eCells x) ∧ Below base w wx ∧ Pe.next pre x = 0))
  case first =>
    obtain hk | hk | hk | hk | ⟨hk1, hk3, hk5, hk6⟩ : x.kind = 1 ∨ x.kind = 3 ∨ x.kind = 5 ∨ x.kind = 6 ∨ (x.kind ≠ 1 ∧ x.kind ≠ 3 ∧ x.kind ≠ 5 ∧ x.kind ≠ 6) := by omega
    · have q1 : ((x.kind : Int) == 1) = true := by rw [hk]; rfl
      have HK := Lib.hid hk
      clear hk
      go_wp2_with fail
      refine wp_region_R (RL [(3, fun w' => w'.cell? ⟨kb, 0, none⟩ = some (.map (some b1))), (5, fun w' => w'.cell? ⟨ex, 4, none⟩ = some (.int .i64 x.person))]) (by kernel_rfl) (RL_cons k0 (RL_cons e4 (RL_nil _))) (fun hp => ?_)
      refine wpAnyR_take (i := 0) (oi := ⟨some 67, _, _, _, _, _⟩) (v := ?_) rfl (by kernel_rfl) (by kernel_rfl) (by kernel_rfl) (fun _ _ _ h => h) hp (.inl ⟨by rfl, fun w _ => ?_⟩) (fun hq => ?_)
      rotate_left
      · go_simp
        with_reducible rfl
      clear hp; have hp := hq; clear hq
      try simp only [Act.put, List.setIfInBounds_toArray, List.set_cons_zero, List.set_cons_succ]
      refine wpAnyR_take (i := 1) (oi := ⟨some 68, _, _, _, _, _⟩) (v := ?_) rfl (by kernel_rfl) (by kernel_rfl) (by kernel_rfl) (fun _ _ _ h => h) hp (.inl ⟨by rfl, fun w _ => ?_⟩) (fun hq => ?_)
      rotate_left
      · go_simp
        with_reducible rfl
      clear hp; have hp := hq; clear hq
      try simp only [Act.put, List.setIfInBounds_toArray, List.set_cons_zero, List.set_cons_succ]
      refine wpAnyR_take (i := 2) (oi := ⟨some 69, _, _, _, _, _⟩) (v := ?_) rfl (by kernel_rfl) (by kernel_rfl) (by kernel_rfl) (fun _ _ _ h => h) hp (.inl ⟨by rfl, fun w _ => ?_⟩) (fun hq => ?_)
      rotate_left
      · go_simp
        with_reducible rfl
      clear hp; have hp := hq; clear hq
      try simp only [Act.put, List.setIfInBounds_toArray, List.set_cons_zero, List.set_cons_succ]
      refine wpAnyR_take (i := 3) (oi := ⟨some 70, _, _, _, _, _⟩) (v := ?_) rfl (by kernel_rfl) (by kernel_rfl) (by kernel_rfl) (fun _ _ _ h => h) hp (.inl ⟨by rfl, fun w hR => ?_⟩) (fun hq => ?_)
      rotate_left
      · have hR := hR.1 rfl
        (try dsimp only at hR)
        go_simp
        with_reducible rfl
      clear hp; have hp := hq; clear hq
      try simp only [Act.put, List.setIfInBounds_toArray, List.set_cons_zero, List.set_cons_succ]
      refine wpAnyR_take (i := 4) (oi := ⟨some 71, _, _, _, _, _⟩) (v := ?_) rfl (by kernel_rfl) (by kernel_rfl) (by kernel_rfl) (fun _ _ _ h => h) hp (.inl ⟨by rfl, fun w _ => ?_⟩) (fun hq => ?_)
      rotate_left
      · go_simp
        with_reducible rfl
      clear hp; have hp := hq; clear hq
      try simp only [Act.put, List.setIfInBounds_toArray, List.set_cons_zero, List.set_cons_succ]
      refine wpAnyR_take (i := 5) (oi := ⟨some 72, _, _, _, _, _⟩) (v := ?_) rfl (by kernel_rfl) (by kernel_rfl) (by kernel_rfl) (fun _ _ _ h => h) hp (.inl ⟨by rfl, fun w hR => ?_⟩) (fun hq => ?_)
      rotate_left
      · have hR := hR.2.1 rfl
        (try dsimp only at hR)
        go_simp
        with_reducible rfl
      clear hp; have hp := hq; clear hq
      try simp only [Act.put, List.setIfInBounds_toArray, List.set_cons_zero, List.set_cons_succ]
      refine wpAnyR_step (i := 6) (o := ⟨none, _, _, _, _, _⟩) (by kernel_rfl) rfl (by rfl) (fun K hK => ?_) -- Op.mapUpdate 169 (Operand.tmp 70) (Operand.tmp 72) (Operand.const (Value.bool true))
      refine wp_store_set (ki := 3) (kb := 4) _ _ _ _ rfl Tryz.underlying3 Tryz.underlying4 Tryz.underlying169 b1 pre.length _ rfl (H3.out.1.s1.of_heap (by rfl)) (by have := H.out.2.2.2.1; simp only [maxLen]; omega) x.person rfl rfl H.out.2.1.person ?_
      intro w4 hs4 hg4
      show K _ _
      refine hK _ _ (pend_off (by kernel_rfl) (pend_off (by kernel_rfl) pend_nil)) (fun hq => ?_)
      clear hp hK K; have hp := hq; clear hq
      try simp only [Act.put]
      refine wpAnyR_done (by kernel_rfl) ?_ _
      clear hp
      go_wp2_with fail
      go_meet
      have hk := HK.out
      exact Lib.hid ⟨H3.out.1.set1 hs4 hg4 (by rfl) (fun z => by rw [named_snoc, hk, show (x.person == z) = (z == x.person) from Bool.beq_comm]; simp [Bool.or_comm]) (fun z => by rw [died_snoc, hk]; simp) (fun z => by rw [ordered_snoc, hk]; simp) (fun z => by rw [called_snoc, hk]; simp), (H3.out.2.1.heap (by rfl)).grown hg4 (fun e => H3.out.1.s1.ne_blk H3.out.2.1 (by injection e)), (H3.out.2.2.mono H.out.2.2.1).trans (Chg.below (Chg.trans (fp := fun i => i = b1) (by first | exact (Chg.refl _ _).drew | exact ((Chg.refl _ _).drewN _).drew | exact (((Chg.refl _ _).drewN _).drewN _).drew) (Chg.of_grownBy (fp := fun i => i = b1) hg4 (fun k hk => .inl (by injection hk with hk; exact hk.symm))) (fun i hi => .inl hi)) (fun i hi => by subst hi; exact H3.out.1.low.2.1) (Nat.le_trans H.out.2.2.1 H3.out.2.2.size)), by rw [HG.out, hk]; simp⟩
    · have q1 : ((x.kind : Int) == 1) = false := by simp; omega
      have q3 : ((x.kind : Int) == 3) = true := by rw [hk]; rfl
      have HK := Lib.hid hk
      clear hk
      have l2 : ∀ q, (Instr.lookup 169 (.map (some b2)) (.int .i64 x.person) false).run Tryz.prog (wc.drewN q) = .ok (.bool (Pe.died pre x.person)) (wc.drewN q) := fun q => ISet.look (H3.out.1.s2.of_heap (w' := wc.drewN q) rfl) _ H.out.2.1.person
      cases hd : Pe.died pre x.person
      case true =>
        go_wp2_with fail
        go_quiet (fail)
        go_wp2
        go_ret
        have hnx : Pe.next pre x = 6 := by rw [HG.out, HK.out]; simp [hd]
        exact ⟨by rw [hnx]; rfl, (H3.out.2.2.mono H.out.2.2.1).trans ((below_drewN _ _).mono (Nat.le_trans H.out.2.2.1 H3.out.2.2.size)), fun h => by rw [hnx] at h; cases h⟩
      go_wp2_with fail
      go_quiet (fail)
      go_wp2_with fail
      refine wp_region_R (RL [(3, fun w' => w'.cell? ⟨kb, 1, none⟩ = some (.map (some b2))), (5, fun w' => w'.cell? ⟨ex, 4, none⟩ = some (.int .i64 x.person))]) (by kernel_rfl) (RL_cons k1 (RL_cons e4 (RL_nil _))) (fun hp => ?_)
      refine wpAnyR_take (i := 0) (oi := ⟨some 82, _, _, _, _, _⟩) (v := ?_) rfl (by kernel_rfl) (by kernel_rfl) (by kernel_rfl) (fun _ _ _ h => h) hp (.inl ⟨by rfl, fun w _ => ?_⟩) (fun hq => ?_)
      rotate_left
      · go_simp
        with_reducible rfl
      clear hp; have hp := hq; clear hq
      try simp only [Act.put, List.setIfInBounds_toArray, List.set_cons_zero, List.set_cons_succ]
      refine wpAnyR_take (i := 1) (oi := ⟨some 83, _, _, _, _, _⟩) (v := ?_) rfl (by kernel_rfl) (by kernel_rfl) (by kernel_rfl) (fun _ _ _ h => h) hp (.inl ⟨by rfl, fun w _ => ?_⟩) (fun hq => ?_)
      rotate_left
      · go_simp
        with_reducible rfl
      clear hp; have hp := hq; clear hq
      try simp only [Act.put, List.setIfInBounds_toArray, List.set_cons_zero, List.set_cons_succ]
      refine wpAnyR_take (i := 2) (oi := ⟨some 84, _, _, _, _, _⟩) (v := ?_) rfl (by kernel_rfl) (by kernel_rfl) (by kernel_rfl) (fun _ _ _ h => h) hp (.inl ⟨by rfl, fun w _ => ?_⟩) (fun hq => ?_)
      rotate_left
      · go_simp
        with_reducible rfl
      clear hp; have hp := hq; clear hq
      try simp only [Act.put, List.setIfInBounds_toArray, List.set_cons_zero, List.set_cons_succ]
      refine wpAnyR_take (i := 3) (oi := ⟨some 85, _, _, _, _, _⟩) (v := ?_) rfl (by kernel_rfl) (by kernel_rfl) (by kernel_rfl) (fun _ _ _ h => h) hp (.inl ⟨by rfl, fun w hR => ?_⟩) (fun hq => ?_)
      rotate_left
      · have hR := hR.1 rfl
        (try dsimp only at hR)
        go_simp
        with_reducible rfl
      clear hp; have hp := hq; clear hq
      try simp only [Act.put, List.setIfInBounds_toArray, List.set_cons_zero, List.set_cons_succ]
      refine wpAnyR_take (i := 4) (oi := ⟨some 86, _, _, _, _, _⟩) (v := ?_) rfl (by kernel_rfl) (by kernel_rfl) (by kernel_rfl) (fun _ _ _ h => h) hp (.inl ⟨by rfl, fun w _ => ?_⟩) (fun hq => ?_)
      rotate_left
      · go_simp
        with_reducible rfl
      clear hp; have hp := hq; clear hq
      try simp only [Act.put, List.setIfInBounds_toArray, List.set_cons_zero, List.set_cons_succ]
      refine wpAnyR_take (i := 5) (oi := ⟨some 87, _, _, _, _, _⟩) (v := ?_) rfl (by kernel_rfl) (by kernel_rfl) (by kernel_rfl) (fun _ _ _ h => h) hp (.inl ⟨by rfl, fun w hR => ?_⟩) (fun hq => ?_)
      rotate_left
      · have hR := hR.2.1 rfl
        (try dsimp only at hR)
        go_simp
        with_reducible rfl
      clear hp; have hp := hq; clear hq
      try simp only [Act.put, List.setIfInBounds_toArray, List.set_cons_zero, List.set_cons_succ]
      refine wpAnyR_step (i := 6) (o := ⟨none, _, _, _, _, _⟩) (by kernel_rfl) rfl (by rfl) (fun K hK => ?_) -- Op.mapUpdate 169 (Operand.tmp 85) (Operand.tmp 87) (Operand.const (Value.bool true))
      refine wp_store_set (ki := 3) (kb := 4) _ _ _ _ rfl Tryz.underlying3 Tryz.underlying4 Tryz.underlying169 b2 pre.length _ rfl (H3.out.1.s2.of_heap (by rfl)) (by have := H.out.2.2.2.1; simp only [maxLen]; omega) x.person rfl rfl H.out.2.1.person ?_
      intro w4 hs4 hg4
      show K _ _
      refine hK _ _ (pend_off (by kernel_rfl) (pend_off (by kernel_rfl) pend_nil)) (fun hq => ?_)
      clear hp hK K; have hp := hq; clear hq
      try simp only [Act.put]
      refine wpAnyR_done (by kernel_rfl) ?_ _
      clear hp
      go_wp2_with fail
      go_meet
      have hk := HK.out
      exact Lib.hid ⟨H3.out.1.set2 hs4 hg4 (by rfl) (fun z => by rw [died_snoc, hk, show (x.person == z) = (z == x.person) from Bool.beq_comm]; simp [Bool.or_comm]) (fun z => by rw [named_snoc, hk]; simp) (fun z => by rw [ordered_snoc, hk]; simp) (fun z => by rw [called_snoc, hk]; simp), (H3.out.2.1.heap (by rfl)).grown hg4 (fun e => H3.out.1.s2.ne_blk H3.out.2.1 (by injection e)), (H3.out.2.2.mono H.out.2.2.1).trans (Chg.below (Chg.trans (fp := fun i => i = b2) (by first | exact (Chg.refl _ _).drew | exact ((Chg.refl _ _).drewN _).drew | exact (((Chg.refl _ _).drewN _).drewN _).drew) (Chg.of_grownBy (fp := fun i => i = b2) hg4 (fun k hk => .inl (by injection hk with hk; exact hk.symm))) (fun i hi => .inl hi)) (fun i hi => by subst hi; exact H3.out.1.low.2.2.1) (Nat.le_trans H.out.2.2.1 H3.out.2.2.size)), by rw [HG.out, hk]; simp [hd]⟩
    · have q1 : ((x.kind : Int) == 1) = false := by simp; omega
      have q3 : ((x.kind : Int) == 3) = false := by simp; omega
      have q5 : ((x.kind : Int) == 5) = true := by rw [hk]; rfl
      have HK := Lib.hid hk
      clear hk
      have l3 : ∀ q, (Instr.lookup 169 (.map (some b3)) (.int .i64 x.order) false).run Tryz.prog (wc.drewN q) = .ok (.bool (Pe.ordered pre x.order)) (wc.drewN q) := fun q => ISet.look (H3.out.1.s3.of_heap (w' := wc.drewN q) rfl) _ H.out.2.1.order
      cases hd : Pe.ordered pre x.order
      case true =>
        go_wp2_with fail
        go_quiet (fail)
        go_wp2
        go_ret
        have hnx : Pe.next pre x = 6 := by rw [HG.out, HK.out]; simp [hd]
        exact ⟨by rw [hnx]; rfl, (H3.out.2.2.mono H.out.2.2.1).trans ((below_drewN _ _).mono (Nat.le_trans H.out.2.2.1 H3.out.2.2.size)), fun h => by rw [hnx] at h; cases h⟩
      go_wp2_with fail
      go_quiet (fail)
      go_wp2_with fail
      refine wp_region_R (RL [(3, fun w' => w'.cell? ⟨kb, 2, none⟩ = some (.map (some b3))), (5, fun w' => w'.cell? ⟨ex, 8, none⟩ = some (.int .i64 x.order))]) (by kernel_rfl) (RL_cons k2 (RL_cons e8 (RL_nil _))) (fun hp => ?_)
      refine wpAnyR_take (i := 0) (oi := ⟨some 97, _, _, _, _, _⟩) (v := ?_) rfl (by kernel_rfl) (by kernel_rfl) (by kernel_rfl) (fun _ _ _ h => h) hp (.inl ⟨by rfl, fun w _ => ?_⟩) (fun hq => ?_)
      rotate_left
      · go_simp
        with_reducible rfl
      clear hp; have hp := hq; clear hq
      try simp only [Act.put, List.setIfInBounds_toArray, List.set_cons_zero, List.set_cons_succ]
      refine wpAnyR_take (i := 1) (oi := ⟨some 98, _, _, _, _, _⟩) (v := ?_) rfl (by kernel_rfl) (by kernel_rfl) (by kernel_rfl) (fun _ _ _ h => h) hp (.inl ⟨by rfl, fun w _ => ?_⟩) (fun hq => ?_)
      rotate_left
      · go_simp
        with_reducible rfl
      clear hp; have hp := hq; clear hq
      try simp only [Act.put, List.setIfInBounds_toArray, List.set_cons_zero, List.set_cons_succ]
      refine wpAnyR_take (i := 2) (oi := ⟨some 99, _, _, _, _, _⟩) (v := ?_) rfl (by kernel_rfl) (by kernel_rfl) (by kernel_rfl) (fun _ _ _ h => h) hp (.inl ⟨by rfl, fun w _ => ?_⟩) (fun hq => ?_)
      rotate_left
      · go_simp
        with_reducible rfl
      clear hp; have hp := hq; clear hq
      try simp only [Act.put, List.setIfInBounds_toArray, List.set_cons_zero, List.set_cons_succ]
      refine wpAnyR_take (i := 3) (oi := ⟨some 100, _, _, _, _, _⟩) (v := ?_) rfl (by kernel_rfl) (by kernel_rfl) (by kernel_rfl) (fun _ _ _ h => h) hp (.inl ⟨by rfl, fun w hR => ?_⟩) (fun hq => ?_)
      rotate_left
      · have hR := hR.1 rfl
        (try dsimp only at hR)
        go_simp
        with_reducible rfl
      clear hp; have hp := hq; clear hq
      try simp only [Act.put, List.setIfInBounds_toArray, List.set_cons_zero, List.set_cons_succ]
      refine wpAnyR_take (i := 4) (oi := ⟨some 101, _, _, _, _, _⟩) (v := ?_) rfl (by kernel_rfl) (by kernel_rfl) (by kernel_rfl) (fun _ _ _ h => h) hp (.inl ⟨by rfl, fun w _ => ?_⟩) (fun hq => ?_)
      rotate_left
      · go_simp
        with_reducible rfl
      clear hp; have hp := hq; clear hq
      try simp only [Act.put, List.setIfInBounds_toArray, List.set_cons_zero, List.set_cons_succ]
      refine wpAnyR_take (i := 5) (oi := ⟨some 102, _, _, _, _, _⟩) (v := ?_) rfl (by kernel_rfl) (by kernel_rfl) (by kernel_rfl) (fun _ _ _ h => h) hp (.inl ⟨by rfl, fun w hR => ?_⟩) (fun hq => ?_)
      rotate_left
      · have hR := hR.2.1 rfl
        (try dsimp only at hR)
        go_simp
        with_reducible rfl
      clear hp; have hp := hq; clear hq
      try simp only [Act.put, List.setIfInBounds_toArray, List.set_cons_zero, List.set_cons_succ]
      refine wpAnyR_step (i := 6) (o := ⟨none, _, _, _, _, _⟩) (by kernel_rfl) rfl (by rfl) (fun K hK => ?_) -- Op.mapUpdate 169 (Operand.tmp 100) (Operand.tmp 102) (Operand.const (Value.bool true))
      refine wp_store_set (ki := 3) (kb := 4) _ _ _ _ rfl Tryz.underlying3 Tryz.underlying4 Tryz.underlying169 b3 pre.length _ rfl (H3.out.1.s3.of_heap (by rfl)) (by have := H.out.2.2.2.1; simp only [maxLen]; omega) x.order rfl rfl H.out.2.1.order ?_
      intro w4 hs4 hg4
      show K _ _
      refine hK _ _ (pend_off (by kernel_rfl) (pend_off (by kernel_rfl) pend_nil)) (fun hq => ?_)
      clear hp hK K; have hp := hq; clear hq
      try simp only [Act.put]
      refine wpAnyR_done (by kernel_rfl) ?_ _
      clear hp
      go_wp2_with fail
      go_meet
      have hk := HK.out
      exact Lib.hid ⟨H3.out.1.set3 hs4 hg4 (by rfl) (fun z => by rw [ordered_snoc, hk, show (x.order == z) = (z == x.order) from Bool.beq_comm]; simp [Bool.or_comm]) (fun z => by rw [named_snoc, hk]; simp) (fun z => by rw [died_snoc, hk]; simp) (fun z => by rw [called_snoc, hk]; simp), (H3.out.2.1.heap (by rfl)).grown hg4 (fun e => H3.out.1.s3.ne_blk H3.out.2.1 (by injection e)), (H3.out.2.2.mono H.out.2.2.1).trans (Chg.below (Chg.trans (fp := fun i => i = b3) (by first | exact (Chg.refl _ _).drew | exact ((Chg.refl _ _).drewN _).drew | exact (((Chg.refl _ _).drewN _).drewN _).drew) (Chg.of_grownBy (fp := fun i => i = b3) hg4 (fun k hk => .inl (by injection hk with hk; exact hk.symm))) (fun i hi => .inl hi)) (fun i hi => by subst hi; exact H3.out.1.low.2.2.2.1) (Nat.le_trans H.out.2.2.1 H3.out.2.2.size)), by rw [HG.out, hk]; simp [hd]⟩
    · have q1 : ((x.kind : Int) == 1) = false := by simp; omega
      have q3 : ((x.kind : Int) == 3) = false := by simp; omega
      have q5 : ((x.kind : Int) == 5) = false := by simp; omega
      have q6 : ((x.kind : Int) == 6) = true := by rw [hk]; rfl
      have HK := Lib.hid hk
      clear hk
      have l3 : ∀ q, (Instr.lookup 169 (.map (some b3)) (.int .i64 x.order) false).run Tryz.prog (wc.drewN q) = .ok (.bool (Pe.ordered pre x.order)) (wc.drewN q) := fun q => ISet.look (H3.out.1.s3.of_heap (w' := wc.drewN q) rfl) _ H.out.2.1.order
      have l4 : ∀ q, (Instr.lookup 169 (.map (some b4)) (.int .i64 x.order) false).run Tryz.prog (wc.drewN q) = .ok (.bool (Pe.called pre x.order)) (wc.drewN q) := fun q => ISet.look (H3.out.1.s4.of_heap (w' := wc.drewN q) rfl) _ H.out.2.1.order
      cases hd : Pe.ordered pre x.order
      case false =>
        go_wp2_with fail
        go_quiet (fail)
        go_wp2
        go_ret
        have hnx : Pe.next pre x = 5 := by rw [HG.out, HK.out]; simp [hd]
        exact ⟨by rw [hnx]; rfl, (H3.out.2.2.mono H.out.2.2.1).trans ((below_drewN _ _).mono (Nat.le_trans H.out.2.2.1 H3.out.2.2.size)), fun h => by rw [hnx] at h; cases h⟩
      cases hd4 : Pe.called pre x.order
      case true =>
        go_wp2_with fail
        go_quiet (fail)
        go_wp2_with fail
        go_quiet (fail)
        go_wp2
        go_ret
        have hnx : Pe.next pre x = 6 := by rw [HG.out, HK.out]; simp [hd, hd4]
        exact ⟨by rw [hnx]; rfl, (H3.out.2.2.mono H.out.2.2.1).trans (Chg.below (fp := fun _ => False) (by first | exact (Chg.refl _ _).drewN _ | exact ((Chg.refl _ _).drewN _).drewN _) (fun _ h => h.elim) (Nat.le_trans H.out.2.2.1 H3.out.2.2.size)), fun h => by rw [hnx] at h; cases h⟩
      go_wp2_with fail
      go_quiet (fail)
      go_wp2_with fail
      go_quiet (fail)
      go_wp2_with fail
      refine wp_region_R (RL [(3, fun w' => w'.cell? ⟨kb, 3, none⟩ = some (.map (some b4))), (5, fun w' => w'.cell? ⟨ex, 8, none⟩ = some (.int .i64 x.order))]) (by kernel_rfl) (RL_cons k3 (RL_cons e8 (RL_nil _))) (fun hp => ?_)
      refine wpAnyR_take (i := 0) (oi := ⟨some 120, _, _, _, _, _⟩) (v := ?_) rfl (by kernel_rfl) (by kernel_rfl) (by kernel_rfl) (fun _ _ _ h => h) hp (.inl ⟨by rfl, fun w _ => ?_⟩) (fun hq => ?_)
      rotate_left
      · go_simp
        with_reducible rfl
      clear hp; have hp := hq; clear hq
      try simp only [Act.put, List.setIfInBounds_toArray, List.set_cons_zero, List.set_cons_succ]
      refine wpAnyR_take (i := 1) (oi := ⟨some 121, _, _, _, _, _⟩) (v := ?_) rfl (by kernel_rfl) (by kernel_rfl) (by kernel_rfl) (fun _ _ _ h => h) hp (.inl ⟨by rfl, fun w _ => ?_⟩) (fun hq => ?_)
      rotate_left
      · go_simp
        with_reducible rfl
      clear hp; have hp := hq; clear hq
      try simp only [Act.put, List.setIfInBounds_toArray, List.set_cons_zero, List.set_cons_succ]
      refine wpAnyR_take (i := 2) (oi := ⟨some 122, _, _, _, _, _⟩) (v := ?_) rfl (by kernel_rfl) (by kernel_rfl) (by kernel_rfl) (fun _ _ _ h => h) hp (.inl ⟨by rfl, fun w _ => ?_⟩) (fun hq => ?_)
      rotate_left
      · go_simp
        with_reducible rfl
      clear hp; have hp := hq; clear hq
      try simp only [Act.put, List.setIfInBounds_toArray, List.set_cons_zero, List.set_cons_succ]
      refine wpAnyR_take (i := 3) (oi := ⟨some 123, _, _, _, _, _⟩) (v := ?_) rfl (by kernel_rfl) (by kernel_rfl) (by kernel_rfl) (fun _ _ _ h => h) hp (.inl ⟨by rfl, fun w hR => ?_⟩) (fun hq => ?_)
      rotate_left
      · have hR := hR.1 rfl
        (try dsimp only at hR)
        go_simp
        with_reducible rfl
      clear hp; have hp := hq; clear hq
      try simp only [Act.put, List.setIfInBounds_toArray, List.set_cons_zero, List.set_cons_succ]
      refine wpAnyR_take (i := 4) (oi := ⟨some 124, _, _, _, _, _⟩) (v := ?_) rfl (by kernel_rfl) (by kernel_rfl) (by kernel_rfl) (fun _ _ _ h => h) hp (.inl ⟨by rfl, fun w _ => ?_⟩) (fun hq => ?_)
      rotate_left
      · go_simp
        with_reducible rfl
      clear hp; have hp := hq; clear hq
      try simp only [Act.put, List.setIfInBounds_toArray, List.set_cons_zero, List.set_cons_succ]
      refine wpAnyR_take (i := 5) (oi := ⟨some 125, _, _, _, _, _⟩) (v := ?_) rfl (by kernel_rfl) (by kernel_rfl) (by kernel_rfl) (fun _ _ _ h => h) hp (.inl ⟨by rfl, fun w hR => ?_⟩) (fun hq => ?_)
      rotate_left
      · have hR := hR.2.1 rfl
        (try dsimp only at hR)
        go_simp
        with_reducible rfl
      clear hp; have hp := hq; clear hq
      try simp only [Act.put, List.setIfInBounds_toArray, List.set_cons_zero, List.set_cons_succ]
      refine wpAnyR_step (i := 6) (o := ⟨none, _, _, _, _, _⟩) (by kernel_rfl) rfl (by rfl) (fun K hK => ?_) -- Op.mapUpdate 169 (Operand.tmp 123) (Operand.tmp 125) (Operand.const (Value.bool true))
      refine wp_store_set (ki := 3) (kb := 4) _ _ _ _ rfl Tryz.underlying3 Tryz.underlying4 Tryz.underlying169 b4 pre.length _ rfl (H3.out.1.s4.of_heap (by rfl)) (by have := H.out.2.2.2.1; simp only [maxLen]; omega) x.order rfl rfl H.out.2.1.order ?_
      intro w4 hs4 hg4
      show K _ _
      refine hK _ _ (pend_off (by kernel_rfl) (pend_off (by kernel_rfl) pend_nil)) (fun hq => ?_)
      clear hp hK K; have hp := hq; clear hq
      try simp only [Act.put]
      refine wpAnyR_done (by kernel_rfl) ?_ _
      clear hp
      go_wp2_with fail
      go_meet
      have hk := HK.out
      exact Lib.hid ⟨H3.out.1.set4 hs4 hg4 (by rfl) (fun z => by rw [called_snoc, hk, show (x.order == z) = (z == x.order) from Bool.beq_comm]; simp [Bool.or_comm]) (fun z => by rw [named_snoc, hk]; simp) (fun z => by rw [died_snoc, hk]; simp) (fun z => by rw [ordered_snoc, hk]; simp), (H3.out.2.1.heap (by rfl)).grown hg4 (fun e => H3.out.1.s4.ne_blk H3.out.2.1 (by injection e)), (H3.out.2.2.mono H.out.2.2.1).trans (Chg.below (Chg.trans (fp := fun i => i = b4) (by first | exact (Chg.refl _ _).drew | exact ((Chg.refl _ _).drewN _).drew | exact (((Chg.refl _ _).drewN _).drewN _).drew) (Chg.of_grownBy (fp := fun i => i = b4) hg4 (fun k hk => .inl (by injection hk with hk; exact hk.symm))) (fun i hi => .inl hi)) (fun i hi => by subst hi; exact H3.out.1.low.2.2.2.2) (Nat.le_trans H.out.2.2.1 H3.out.2.2.size)), by rw [HG.out, hk]; simp [hd, hd4]⟩
    · have q1 : ((x.kind : Int) == 1) = false := by simp; omega
      have q3 : ((x.kind : Int) == 3) = false := by simp; omega
      have q5 : ((x.kind : Int) == 5) = false := by simp; omega
      have q6 : ((x.kind : Int) == 6) = false := by simp; omega
      have HK := Lib.hid (And.intro hk1 (And.intro hk3 (And.intro hk5 hk6)))
      clear hk1 hk3 hk5 hk6
      go_wp2_with fail
      go_meet
      obtain ⟨hk1, hk3, hk5, hk6⟩ := HK.out
      exact Lib.hid ⟨H3.out.1.same rfl (fun z => by rw [named_snoc]; simp [hk1]) (fun z => by rw [died_snoc]; simp [hk3]) (fun z => by rw [ordered_snoc]; simp [hk5]) (fun z => by rw [called_snoc]; simp [hk6]), H3.out.2.1, H3.out.2.2.mono H.out.2.2.1, by rw [HG.out]; simp [hk3, hk5, hk6]⟩
  case rest =>
  obtain ⟨wD, rfl⟩ : ∃ wD : World, wD = wc := ⟨_, rfl⟩
  have HD := Lib.hid hcut.out
  have d0 : wD.cell? ⟨ex, 0, none⟩ = some (.int .i64 x.day) := HD.out.2.1.cell 0
  have d4 : wD.cell? ⟨kb, 4, none⟩ = some (.int .i64 (n : Int)) := by rw [H1.out.2.2.2.1]; exact HD.out.1.blk.cell 4
  have d5 : wD.cell? ⟨kb, 5, none⟩ = some (.int .i64 ld) := by rw [H1.out.2.2.2.2.1]; exact HD.out.1.blk.cell 5
  have f4 := HD.out.1.blk.frozen 4
  have f5 := HD.out.1.blk.frozen 5
  have hne : ex ≠ kb := by
    rintro rfl
    exact absurd (Blk.apart HD.out.2.1 HD.out.1.blk (by decide) rfl) (fun h => h)
  clear hcut e0 e1 e4 e8 k0 k1 k2 k3 k4 k5
  apply_assumption
  go_wp2
  go_ret
  have hbp := (HD.out.1.blk.put 4 (.int .i64 ((n : Int) + 1))).put 5 (.int .i64 x.day)
  refine ⟨by rw [HD.out.2.2.2]; rfl, HD.out.2.2.1.trans (((Below.refl base wD).setCell (p := ⟨kb, 4, none⟩) HD.out.1.low.1 _).setCell (p := ⟨kb, 5, none⟩) HD.out.1.low.1 _), fun _ => ?_⟩
  have hl : (pre ++ [x]).length = pre.length + 1 := by simp
  have hn1 : (n : Int) + 1 = ((pre.length + 1 : Nat) : Int) := by have := H1.out.2.2.2.1; omega
  unfold KB
  rw [hl, lastDay_snoc]
  refine ⟨?_, HD.out.1.low, HD.out.1.apart, HD.out.1.kap, (HD.out.1.s1.setCell (fun e => HD.out.1.kap.1 e.symm) _).setCell (fun e => HD.out.1.kap.1 e.symm) _, (HD.out.1.s2.setCell (fun e => HD.out.1.kap.2.1 e.symm) _).setCell (fun e => HD.out.1.kap.2.1 e.symm) _, (HD.out.1.s3.setCell (fun e => HD.out.1.kap.2.2.1 e.symm) _).setCell (fun e => HD.out.1.kap.2.2.1 e.symm) _, (HD.out.1.s4.setCell (fun e => HD.out.1.kap.2.2.2 e.symm) _).setCell (fun e => HD.out.1.kap.2.2.2 e.symm) _⟩
  rw [← hn1]
  exact hbp

end Go.Proofs.YtnphlekailodkaaGreatDoor
