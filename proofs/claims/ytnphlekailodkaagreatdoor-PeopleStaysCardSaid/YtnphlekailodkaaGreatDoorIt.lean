/-
  The iterator over the entries of a kind that hold on a day.
-/
import Derived.RangeFuncNested
import Derived.RangeFuncBound
import Derived.RangeFuncCalls
import Derived.RangeFuncLeaves
import Derived.Shelf.Abstract
import Derived.WalkKit
import Derived.OwnWalkIn
import Derived.TacticsInMore
import Derived.LoopNIn
import Derived.LoopIn
import Derived.Test.YtnphlekailodkaaGreatDoorFo
import Derived.Test.YtnphlekailodkaaGreatDoorAy
namespace Go.Proofs.YtnphlekailodkaaGreatDoor
open Go.RowKit Go.Shelf

set_option maxRecDepth 1000000 in
set_option maxHeartbeats 4000000 in
theorem holds_calls (s u d : Int) (w : World) : Calls Tryz.prog 76 #[.agg #[.int .i64 s, .int .i64 u], .int .i64 d] w fun e w' => e = .returned (.bool (decide (s ≤ d) && (u == 0 || decide (d < u)))) ∧ Below w.heap.size w w' := by
  obtain ⟨B, hB⟩ : ∃ B, B = (decide (s ≤ d) && (u == 0 || decide (d < u))) := ⟨_, rfl⟩
  rw [← hB]
  have HB := Lib.hid hB
  clear hB
  go_enter Tryz.func76, Tryz.ntmps76
  by_cases h1 : s ≤ d
  · have d1 : decide (s ≤ d) = true := by simpa using h1
    cases d2 : (u == 0)
    · cases d3 : decide (d < u)
      all_goals
        have H := Lib.hid (And.intro d1 (And.intro d2 d3))
        clear h1
        go_wp2
        go_ret
        refine ⟨?_, (Below.refl _ w).alloc (Nat.le_refl _) _⟩
        rw [HB.out, H.out.1, H.out.2.1, H.out.2.2]; rfl
    · have H := Lib.hid (And.intro d1 d2)
      clear h1
      go_wp2
      go_ret
      refine ⟨?_, (Below.refl _ w).alloc (Nat.le_refl _) _⟩
      rw [HB.out, H.out.1, H.out.2]; rfl
  · have d1 : decide (s ≤ d) = false := by simpa using h1
    have H := Lib.hid d1
    clear h1
    go_wp2
    go_ret
    refine ⟨?_, (Below.refl _ w).alloc (Nat.le_refl _) _⟩
    rw [HB.out, H.out]; rfl
set_option maxRecDepth 1000000 in
set_option maxHeartbeats 4000000 in
theorem Holds_calls (x : Pe.Ent) (d : Int) (w : World) : Calls Tryz.prog 40 #[.agg (eCells x), .int .i64 d] w fun e w' => e = .returned (.bool (x.on d)) ∧ Below w.heap.size w w' := by
  obtain ⟨B, hB⟩ : ∃ B, B = x.on d := ⟨_, rfl⟩
  have hc := fun w0 => holds_calls x.since x.til d w0
  rw [show (decide (x.since ≤ d) && (x.til == 0 || decide (d < x.til))) = B from hB.symm] at hc
  rw [← hB]
  have HC := Lib.hid hc
  clear hc hB
  go_enter Tryz.func40, Tryz.ntmps40
  unfold eCells
  have hf : ∀ w, (Instr.field 92 (.agg #[.int .i64 x.since, .int .i64 x.til, .int .i64 x.day, .int .u8 (x.kind : Int), .int .i64 x.since, .int .i64 x.til, .int .i64 x.person, .int .i64 x.place, .int .i64 x.other, .int .i64 x.at_, .int .i64 x.order, .string (bs x.name)]) 0).run Tryz.prog w = .ok (.agg #[.int .i64 x.since, .int .i64 x.til]) w := fun _ => by kernel_rfl
  go_wp2_with fail
  refine (HC.out _).mono ?_
  rintro e w1 ⟨rfl, hb⟩
  have H := Lib.hid hb
  clear hb
  dsimp only
  go_wp2
  go_ret
  exact ⟨rfl, ((Below.refl _ w).alloc (Nat.le_refl _) _).trans (H.out.mono (by simp))⟩
set_option maxRecDepth 1000000 in
set_option maxHeartbeats 4000000 in
theorem all_calls (A : Option Addr) (n c k : Nat) (d : Int) (w : World) : Calls Tryz.prog 63 #[.slice A n c, .int .u8 (k : Int), .int .i64 d] w fun e w' => e = .returned (.func (.func 93) #[] #[.pointer (some ⟨w.heap.size, 0, none⟩), .pointer (some ⟨w.heap.size + 1, 0, none⟩), .pointer (some ⟨w.heap.size + 1 + 1, 0, none⟩)]) ∧ w' = ((w.alloc (.cells #[.slice A n c] 22)).alloc (.cells #[.int .u8 (k : Int)] 5)).alloc (.cells #[.int .i64 d] 3) := by
  go_enter Tryz.func63, Tryz.ntmps63
  go_wp2_with fail
  go_ret
  exact ⟨rfl, rfl⟩

/-- An entry whose numbers fit. -/
abbrev EntW := { x : Pe.Ent // EOk x }
/-- What lies below n₀, and three blocks from B on, lies as it lay. -/
def Keeps3 (n₀ B : Nat) (W W' : World) : Prop := ∀ k o, (k < n₀ ∨ (B ≤ k ∧ k < B + 3)) → W.heap[k]? = some o → W'.heap[k]? = some o
theorem Keeps3.refl (n₀ B : Nat) (W : World) : Keeps3 n₀ B W W := fun _ _ _ h => h
theorem Keeps3.trans {n₀ B : Nat} {X Y Z : World} (h : Keeps3 n₀ B X Y) (k : Keeps3 n₀ B Y Z) : Keeps3 n₀ B X Z := fun i o hi ho => k i o hi (h i o hi ho)
theorem Keeps3.of_chg {n₀ B : Nat} {fp : Nat → Prop} {W W' : World} (h : Chg fp W W') (hf : ∀ i, fp i → n₀ ≤ i ∧ (i < B ∨ B + 3 ≤ i)) : Keeps3 n₀ B W W' := fun k _ hk ho =>
  (h.block k (Array.getElem?_eq_some_iff.1 ho).1 (fun e => by have := hf k e; omega)).trans ho
theorem Keeps3.of_below {n₀ B : Nat} {W W' : World} (h : Below W.heap.size W W') : Keeps3 n₀ B W W' := fun k _ _ ho => (h.block k (Array.getElem?_eq_some_iff.1 ho).1).trans ho
theorem Keeps3.put {n₀ B : Nat} {w : World} (hn : n₀ ≤ w.heap.size) (hB : B + 3 ≤ w.heap.size) (W : World) (l : Nat) (_o o' : Obj) (hl : w.heap.size ≤ l) (_ : W.heap[l]? = some _o) (_ : _o.isCells = false) (_ : _o.isWalk = false) : Keeps3 n₀ B W (W.putObj l o') := fun k x hk hx =>
  ((grownBy_putObj' W l o').block k (Array.getElem?_eq_some_iff.1 hx).1 (fun e => by injection e with e; omega)).trans hx
theorem Keeps3.blk {n₀ B g : Nat} {t : TypeId} {cs : Array Value} {W W' : World} (h : Keeps3 n₀ B W W') (hb : Blk W g t cs) (hg : g < n₀ ∨ (B ≤ g ∧ g < B + 3)) : Blk W' g t cs := h g _ hg hb
theorem EntsAt.keep3 {n₀ B : Nat} {w0 W W' : World} {A : Option Addr} {n : Nat} {l : List Pe.Ent} (h : EntsAt w0 A n l) (hb : Below w0.heap.size w0 W) (hn : n₀ = w0.heap.size) (hk : Keeps3 n₀ B W W') : EntsAt W' A n l := by
  refine ⟨h.len, h.most, h.at_.imp id ?_, h.ok⟩
  rintro ⟨ad, hA, hl, hc⟩
  have hlt : ad.block < W.heap.size := Nat.lt_of_lt_of_le hl hb.size
  have hblk : W'.heap[ad.block]? = W.heap[ad.block]? := by
    rw [hk ad.block _ (.inl (by omega)) (Array.getElem?_eq_getElem hlt), Array.getElem?_eq_getElem hlt]
  refine ⟨ad, hA, ?_, fun i x hi j v hv => ?_⟩
  · have := Array.getElem?_eq_getElem hlt
    rw [← hblk] at this
    exact (Array.getElem?_eq_some_iff.1 this).1
  · have hbl : ((ad.add (i * 10)).add j).block = ad.block := by unfold Addr.add; split <;> split <;> rfl
    have e1 : W'.cell? ((ad.add (i * 10)).add j) = W.cell? ((ad.add (i * 10)).add j) := World.cell?_of_block (by rw [hbl]; exact hblk)
    rw [e1, hb.cell (by rw [hbl]; exact hl)]
    exact hc i x hi j v hv
theorem grown_of_below {w w' : World} (h : Below w.heap.size w w') : w.grownBy w' none := ⟨h.os, h.tape, h.output, h.size, fun k hk _ => h.block k hk⟩
theorem onDay_snoc (l : List Pe.Ent) (x : Pe.Ent) (k : Nat) (d : Int) : Pe.onDay (l ++ [x]) k d = Pe.onDay l k d ++ (if (x.kind == k && x.on d) = true then [x] else []) := by
  unfold Pe.onDay
  rw [List.filter_append, List.filter_cons]
  split <;> simp
theorem onDay_prefix (l : List Pe.Ent) (j k : Nat) (d : Int) : Pe.onDay (l.take j) k d <+: Pe.onDay l k d := by
  refine ⟨Pe.onDay (l.drop j) k d, ?_⟩
  unfold Pe.onDay
  rw [← List.filter_append, List.take_append_drop]

attribute [local go_sem] Oper.semAt_some
set_option maxRecDepth 1000000 in
set_option maxHeartbeats 4000000 in
theorem all_1_in (n : Nat) (hn : 1 ≤ n) (lp n₀ B : Nat) (A : Option Addr) (len c k : Nat) (d : Int) (l : List Pe.Ent) (w0 W : World) (hn₀ : n₀ = w0.heap.size) (hW : Below w0.heap.size w0 W) (hL : EntsAt w0 A len l)
    (hb0 : Blk W B 22 #[.slice A len c]) (hb1 : Blk W (B + 1) 5 #[.int .u8 (k : Int)]) (hb2 : Blk W (B + 1 + 1) 3 #[.int .i64 d])
    (J Jx : List EntW → World → Prop) (hJ : AbidesFrom W.heap.size J) (hJx : AbidesFrom W.heap.size Jx)
    (hY : ∀ pre x W1, J pre W1 → pre.length < l.length → YieldAt Fence.wide (n - 1) Tryz.prog lp #[.agg (eCells x.1)] W1 fun e W' =>
      (e = .returned (.bool true) ∧ J (pre ++ [x]) W' ∧ Keeps3 n₀ B W1 W') ∨ (e = .returned (.bool false) ∧ Jx (pre ++ [x]) W')) (h0 : J [] W) :
    CallsIn Fence.wide n Tryz.prog 93 #[.func (.yield lp) #[] #[], .pointer (some ⟨B, 0, none⟩), .pointer (some ⟨B + 1, 0, none⟩), .pointer (some ⟨B + 1 + 1, 0, none⟩)] W fun e W' => (∃ v, e = .returned v) ∧
      ((∃ ys : List EntW, ys.map Subtype.val = Pe.onDay l k d ∧ J ys W') ∨ (∃ pre : List EntW, pre.map Subtype.val <+: Pe.onDay l k d ∧ Jx pre W')) := by
  have hmost := hL.most
  have hc0 : W.cell? ⟨B, 0, none⟩ = some (.slice A len c) := hb0.cell 0
  have H := Lib.hid (And.intro hn₀ (And.intro hW (And.intro hL (And.intro hb0 (And.intro hb1 (And.intro hb2 (And.intro hJ (And.intro hJx hY))))))))
  have H0 := Lib.hid h0
  clear hn₀ hW hL hb0 hb1 hb2 hJ hJx hY h0
  refine callsIn_of_wp Tryz.func93 rfl trivial ?_ rfl
  simp only [Tryz.ntmps93, List.size_toArray, List.length_cons, List.length_nil, Nat.reduceAdd, Nat.reduceSub, Array.replicate_succ, Array.replicate_zero, List.push_toArray, List.append_toArray, List.nil_append, List.cons_append]
  gi_wp2_with fail
  gi_loopw [9] (fun s9 wr => ∃ j : Nat, j ≤ len ∧ s9 = .int .i64 (j : Int) ∧ Hid (Keeps3 n₀ B W wr ∧ ∃ pre : List EntW, pre.map Subtype.val = Pe.onDay (l.take j) k d ∧ J pre wr)) (fun s9 _ => len - (intOf s9).toNat)
  case atStart => exact ⟨0, by omega, by go_num, Lib.hid ⟨Keeps3.refl _ _ _, [], by simp [Pe.onDay], H0.out⟩⟩
  case round =>
    obtain ⟨j, hj, rfl, hR⟩ := hrel
    have c1 : wr.cell? ⟨B + 1, 0, none⟩ = some (.int .u8 (k : Int)) := (hR.out.1.blk H.out.2.2.2.2.1 (.inr (by omega))).cell 0
    have c2 : wr.cell? ⟨B + 1 + 1, 0, none⟩ = some (.int .i64 d) := (hR.out.1.blk H.out.2.2.2.2.2.1 (.inr (by omega))).cell 0
    have l1 : B + 1 < wr.heap.size := World.block_lt_of_cell? wr _ c1
    have l2 : B + 1 + 1 < wr.heap.size := World.block_lt_of_cell? wr _ c2
    by_cases hgo : j < len
    case neg =>
      have hd1 : decide ((j : Int) < (len : Int)) = false := by simp; omega
      gi_wp2
      go_end0
      obtain ⟨pre, hp, hj2⟩ := hR.out.2
      exact ⟨⟨_, rfl⟩, .inl ⟨pre, by rw [hp, List.take_of_length_le (by have := H.out.2.2.1.len; omega)], hj2⟩⟩
    have hd1 : decide ((j : Int) < (len : Int)) = true := by simp; omega
    have hE := H.out.2.2.1.keep3 H.out.2.1 H.out.1 hR.out.1
    obtain ⟨x, ad, hx, rfl, hok, hcw⟩ := hE.one hgo
    have g0 : wr.cell? (ad.add (j * 10)) = some (.int .i64 x.day) := hcw 0 _ rfl
    have g1 : wr.cell? ⟨(ad.add (j * 10)).block, (ad.add (j * 10)).off + 1, none⟩ = some (.int .u8 (x.kind : Int)) := hcw 1 _ rfl
    have g2 : wr.cell? ⟨(ad.add (j * 10)).block, (ad.add (j * 10)).off + 2, none⟩ = some (.int .i64 x.since) := hcw 2 _ rfl
    have g3 : wr.cell? ⟨(ad.add (j * 10)).block, (ad.add (j * 10)).off + 3, none⟩ = some (.int .i64 x.til) := hcw 3 _ rfl
    have g4 : wr.cell? ⟨(ad.add (j * 10)).block, (ad.add (j * 10)).off + 4, none⟩ = some (.int .i64 x.person) := hcw 4 _ rfl
    have g5 : wr.cell? ⟨(ad.add (j * 10)).block, (ad.add (j * 10)).off + 5, none⟩ = some (.int .i64 x.place) := hcw 5 _ rfl
    have g6 : wr.cell? ⟨(ad.add (j * 10)).block, (ad.add (j * 10)).off + 6, none⟩ = some (.int .i64 x.other) := hcw 6 _ rfl
    have g7 : wr.cell? ⟨(ad.add (j * 10)).block, (ad.add (j * 10)).off + 7, none⟩ = some (.int .i64 x.at_) := hcw 7 _ rfl
    have g8 : wr.cell? ⟨(ad.add (j * 10)).block, (ad.add (j * 10)).off + 8, none⟩ = some (.int .i64 x.order) := hcw 8 _ rfl
    have g9 : wr.cell? ⟨(ad.add (j * 10)).block, (ad.add (j * 10)).off + 9, none⟩ = some (.string (bs x.name)) := hcw 9 _ rfl
    have htk : l.take (j + 1) = l.take j ++ [x] := by rw [List.take_add_one, hx]; rfl
    have HX := Lib.hid (And.intro hx (And.intro hok htk))
    clear hx hcw hok hE htk
    have k1 := nat_beq x.kind k
    cases hk : (x.kind == k)
    · have q1 : ((x.kind : Int) == (k : Int)) = false := k1.trans hk
      have HK := Lib.hid hk
      clear hk k1
      gi_wp2
      refine ⟨trivial, ?_⟩
      gi_wp2
      refine ⟨fun _ h => (by cases h), ?_⟩
      gi_wp2
      go_roundw
      case rel =>
        refine ⟨j + 1, by omega, by go_num, Lib.hid ⟨hR.out.1.trans (Keeps3.of_below ((Below.refl _ wr).alloc (Nat.le_refl _) _)), ?_⟩⟩
        obtain ⟨pre, hp, hj2⟩ := hR.out.2
        refine ⟨pre, by rw [HX.out.2.2, onDay_snoc, HK.out]; simpa using hp, H.out.2.2.2.2.2.2.1 _ _ _ none hj2 (grown_of_below ((Below.refl _ wr).alloc (Nat.le_refl _) _)) (by intro r e; cases e)⟩
      case measure => simp [intOf]; omega
    · have q1 : ((x.kind : Int) == (k : Int)) = true := k1.trans hk
      have HK := Lib.hid hk
      clear hk k1
      gi_wp2_with fail
      refine ⟨trivial, (callsIn_wide.2 (Holds_calls x d _)).mono ?_⟩
      rintro e w2 ⟨rfl, hb2⟩
      obtain ⟨ex, hex⟩ : ∃ ex, ex = wr.heap.size := ⟨_, rfl⟩
      have hE2 : Blk w2 ex 31 (eCells x) := by rw [hex]; exact (Blk.fresh wr _ _).below hb2 (by simp)
      have hB2 : Below wr.heap.size wr w2 := ((Below.refl _ wr).alloc (Nat.le_refl _) _).trans (hb2.mono (by simp))
      rw [← hex]
      have hW2 : ∃ pre : List EntW, pre.map Subtype.val = Pe.onDay (l.take j) k d ∧ J pre w2 := by
        obtain ⟨pre, hp, hj2⟩ := hR.out.2
        exact ⟨pre, hp, H.out.2.2.2.2.2.2.1 _ _ _ none hj2 (grown_of_below hB2) (by intro r e; cases e)⟩
      obtain ⟨pre, hp, hj2⟩ := hW2
      have hok : EOk x := HX.out.2.1
      have hy1 := H.out.2.2.2.2.2.2.2.2 pre ⟨x, hok⟩ w2 hj2 (by
        have h1 : pre.length = (Pe.onDay (l.take j) k d).length := by rw [← hp, List.length_map]
        have h2 : (Pe.onDay (l.take j) k d).length ≤ (l.take j).length := List.length_filter_le _ _
        have h3 := H.out.2.2.1.len
        rw [List.length_take] at h2
        omega)
      have e0 : w2.cell? ⟨ex, 0, none⟩ = some (.int .i64 x.day) := hE2.cell 0
      have e1 : w2.cell? ⟨ex, 1, none⟩ = some (.int .u8 (x.kind : Int)) := hE2.cell 1
      have e2 : w2.cell? ⟨ex, 2, none⟩ = some (.int .i64 x.since) := hE2.cell 2
      have e3 : w2.cell? ⟨ex, 3, none⟩ = some (.int .i64 x.til) := hE2.cell 3
      have e4 : w2.cell? ⟨ex, 4, none⟩ = some (.int .i64 x.person) := hE2.cell 4
      have e5 : w2.cell? ⟨ex, 5, none⟩ = some (.int .i64 x.place) := hE2.cell 5
      have e6 : w2.cell? ⟨ex, 6, none⟩ = some (.int .i64 x.other) := hE2.cell 6
      have e7 : w2.cell? ⟨ex, 7, none⟩ = some (.int .i64 x.at_) := hE2.cell 7
      have e8 : w2.cell? ⟨ex, 8, none⟩ = some (.int .i64 x.order) := hE2.cell 8
      have e9 : w2.cell? ⟨ex, 9, none⟩ = some (.string (bs x.name)) := hE2.cell 9
      have H2 := Lib.hid (And.intro hB2 (And.intro hp hj2))
      clear hb2 hE2 hB2 hp hj2 hex
      clear g0 g1 g2 g3 g4 g5 g6 g7 g8 g9
      cases ho : x.on d
      · have HO := Lib.hid ho
        clear ho hy1
        dsimp only
        gi_wp2
        refine ⟨fun _ h => (by cases h), ?_⟩
        gi_wp2
        go_roundw
        case rel =>
          exact ⟨j + 1, by omega, by go_num, Lib.hid ⟨hR.out.1.trans (Keeps3.of_below H2.out.1), pre, by rw [HX.out.2.2, onDay_snoc, HK.out, HO.out]; simpa using H2.out.2.1, H2.out.2.2⟩⟩
        case measure => simp [intOf]; omega
      · have HO := Lib.hid ho
        clear ho
        obtain ⟨fn, tmps, assign, body, hy, hR2⟩ := hy1
        unfold eCells at hy
        have HR2 := Lib.hid hR2
        clear hR2
        dsimp only at hy ⊢
        gi_wp2_with fail
        have hps : (pre ++ [(⟨x, hok⟩ : EntW)]).map Subtype.val = Pe.onDay (l.take (j + 1)) k d := by
          rw [HX.out.2.2, onDay_snoc, HK.out, HO.out, List.map_append, H2.out.2.1]; simp
        have HP := Lib.hid hps
        clear hps
        refine HR2.out.mono ?_
        rintro e W3 (⟨rfl, hJ3, hk3⟩ | ⟨rfl, hJx3⟩)
        · have H3 := Lib.hid (And.intro hJ3 hk3)
          clear hJ3 hk3
          gi_wp2
          go_roundw
          case rel => exact ⟨j + 1, by omega, by go_num, Lib.hid ⟨(hR.out.1.trans (Keeps3.of_below H2.out.1)).trans H3.out.2, _, HP.out, H3.out.1⟩⟩
          case measure => simp [intOf]; omega
        · have H3 := Lib.hid hJx3
          clear hJx3
          gi_wp2
          refine bodyPost_ret (results_none rfl _ _ _) rfl ?_
          exact ⟨⟨_, rfl⟩, .inr ⟨_, by rw [HP.out]; exact onDay_prefix l (j + 1) k d, H3.out⟩⟩

end Go.Proofs.YtnphlekailodkaaGreatDoor
