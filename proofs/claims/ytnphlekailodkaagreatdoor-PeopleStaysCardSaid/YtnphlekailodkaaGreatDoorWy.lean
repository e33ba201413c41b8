/-
  The cause of a hop, and the hop.
-/
import Derived.Test.YtnphlekailodkaaGreatDoorOr
namespace Go.Proofs.YtnphlekailodkaaGreatDoor
open Go.RowKit

/-- The cause of a hop, as a value. -/
def causeV (l : List Pe.Ent) (c : Pe.Pair) (d : Int) : Value :=
  if Pe.dead l c.1 d = true then
    match Pe.heir? l c.1 d with
    | none => .nilIface
    | some h => .iface 109 (.agg #[.int .i64 h])
  else
    match Pe.order? l c d with
    | none => .nilIface
    | some x => .iface 112 (.agg (eCells x))

set_option maxRecDepth 1000000 in
set_option maxHeartbeats 4000000 in
theorem why_calls (A : Option Addr) (n c : Nat) (l : List Pe.Ent) (cd : Pe.Pair) (d : Int) (w : World) (h : EntsAt w A n l) :
    Calls Tryz.prog 85 #[.slice A n c, .agg (pCells cd), .int .i64 d] w fun e w' => e = .returned (causeV l cd d) ∧ Below w.heap.size w w' := by
  obtain ⟨V, hV⟩ : ∃ V, V = causeV l cd d := ⟨_, rfl⟩
  rw [← hV]
  have H := Lib.hid (And.intro h hV)
  clear h hV
  go_enter Tryz.func85, Tryz.ntmps85
  unfold pCells
  go_wp2_with fail
  obtain ⟨b, hb⟩ : ∃ b, b = w.heap.size := ⟨_, rfl⟩
  obtain ⟨w1, hw1⟩ : ∃ w1, w1 = w.alloc (.cells (pCells cd) 28) := ⟨_, rfl⟩
  have hB1 : Below w.heap.size w w1 := by rw [hw1]; exact (Below.refl _ w).alloc (Nat.le_refl _) _
  have hc1 : Blk w1 b 28 (pCells cd) := by rw [hw1, hb]; exact Blk.fresh w _ _
  unfold pCells at hw1
  rw [← hb, ← hw1]
  have H1 := Lib.hid (And.intro hB1 hc1)
  clear hB1 hc1 hw1 hb
  refine (Dead_calls A n c l cd.1 d w1 (H.out.1.below H1.out.1)).mono ?_
  rintro e w2 ⟨rfl, hb2⟩
  have H2 := Lib.hid (And.intro (H1.out.1.trans (hb2.mono H1.out.1.size)) (H1.out.2.below hb2 H1.out.2.lt))
  clear hb2
  have k0 : w2.cell? ⟨b, 0, none⟩ = some (.int .i64 cd.1) := H2.out.2.cell 0
  have k1 : w2.cell? ⟨b, 1, none⟩ = some (.int .i64 cd.2) := H2.out.2.cell 1
  dsimp only
  cases hd : Pe.dead l cd.1 d
  · have HD := Lib.hid hd
    clear hd
    go_wp2_with fail
    have hoc := Order_calls A n c l cd d w2 (H.out.1.below H2.out.1)
    unfold pCells at hoc
    refine hoc.mono ?_
    clear hoc
    rintro e w3 ⟨rfl, hb3⟩
    obtain ⟨r, hr⟩ : ∃ r, r = Pe.order? l cd d := ⟨_, rfl⟩
    rw [← hr]
    have H3 := Lib.hid (And.intro (H2.out.1.trans (hb3.mono H2.out.1.size)) hr)
    clear hb3 hr k0 k1
    cases r with
    | none =>
      unfold eCells
      dsimp only [Option.getD_none, Option.isSome_none]
      go_wp2
      go_ret
      refine ⟨?_, H3.out.1.alloc H3.out.1.size _⟩
      rw [H.out.2, causeV, if_neg (by rw [HD.out]; simp), ← H3.out.2]; rfl
    | some x =>
      unfold eCells
      dsimp only [Option.getD_some, Option.isSome_some]
      go_wp2
      go_ret
      refine ⟨?_, H3.out.1.alloc H3.out.1.size _⟩
      rw [H.out.2, causeV, if_neg (by rw [HD.out]; simp), ← H3.out.2]; rfl
  · have HD := Lib.hid hd
    clear hd
    go_wp2_with fail
    refine (Heir_calls A n c l cd.1 d w2 (H.out.1.below H2.out.1)).mono ?_
    rintro e w3 ⟨rfl, hb3⟩
    obtain ⟨r, hr⟩ : ∃ r, r = Pe.heir? l cd.1 d := ⟨_, rfl⟩
    rw [← hr]
    have H3 := Lib.hid (And.intro (H2.out.1.trans (hb3.mono H2.out.1.size)) hr)
    clear hb3 hr k0 k1
    cases r with
    | none =>
      dsimp only [Option.getD_none, Option.isSome_none]
      go_wp2
      go_ret
      refine ⟨?_, H3.out.1⟩
      rw [H.out.2, causeV, if_pos HD.out, ← H3.out.2]; rfl
    | some x =>
      dsimp only [Option.getD_some, Option.isSome_some]
      go_wp2
      go_ret
      refine ⟨?_, H3.out.1⟩
      rw [H.out.2, causeV, if_pos HD.out, ← H3.out.2]; rfl

/-- The cells of a hop. -/
def hCells (h : Pe.Hop) : Array Value := #[.int .u8 (h.kind : Int), .int .i64 h.frm.1, .int .i64 h.frm.2, .int .i64 h.to.1, .int .i64 h.to.2, .int .i64 h.order]
theorem infoHop : (Tryz.prog.info? 66).map (·.size) = some 6 := by kernel_rfl
theorem oneCell_hop (x : Pe.Hop) : (hCells x).all (·.oneCell') = true := by simp [hCells, Value.oneCell']
/-- One result, a row of cells. -/
theorem results_row1 {P : Program} {fn : Func} {p : Tmp} {ty : TypeId} (h : fn.results = #[.cell p ty]) (tmps : Array Value) (w : World) (g : Nat) (cs : Array Value) (d : TypeDesc)
    (hp : tmps.getD p undef = .pointer (some ⟨g, 0, none⟩)) (hg : Blk w g ty cs) (hu : P.underlying ty = some d) (hd : (match d with | .struct _ | .array _ _ => true | _ => false) = true) (hi : (P.info? ty).map (·.size) = some cs.size) :
    (results fn tmps).run P w = .ok (.agg cs) w := results_cell_row h tmps w g ty cs (0, 0) d hp hg hu hd hi
/-- Six cells stored one by one. -/
theorem Blk.put6 {w : World} {b : Nat} {t : TypeId} {c0 c1 c2 c3 c4 c5 v0 v1 v2 v3 v4 v5 : Value} (h : Blk w b t #[c0, c1, c2, c3, c4, c5]) :
    Blk ((((((w.setCell ⟨b, 0, none⟩ v0).setCell ⟨b, 1, none⟩ v1).setCell ⟨b, 2, none⟩ v2).setCell ⟨b, 3, none⟩ v3).setCell ⟨b, 4, none⟩ v4).setCell ⟨b, 5, none⟩ v5) b t #[v0, v1, v2, v3, v4, v5] ∧
    Chg (fun i => i = b) w ((((((w.setCell ⟨b, 0, none⟩ v0).setCell ⟨b, 1, none⟩ v1).setCell ⟨b, 2, none⟩ v2).setCell ⟨b, 3, none⟩ v3).setCell ⟨b, 4, none⟩ v4).setCell ⟨b, 5, none⟩ v5) := by
  refine ⟨?_, ((((((Chg.refl (fun i => i = b) w).setCell (p := ⟨b, 0, none⟩) (.inl rfl) _).setCell (p := ⟨b, 1, none⟩) (.inl rfl) _).setCell (p := ⟨b, 2, none⟩) (.inl rfl) _).setCell (p := ⟨b, 3, none⟩) (.inl rfl) _).setCell (p := ⟨b, 4, none⟩) (.inl rfl) _).setCell (p := ⟨b, 5, none⟩) (.inl rfl) _⟩
  have h1 := row_stored (cs := #[v0, v1, v2, v3, v4, v5]) h rfl
  simpa only [World.setCells, Nat.reduceAdd] using h1

set_option maxRecDepth 1000000 in
set_option maxHeartbeats 4000000 in
theorem hopI_calls (h : Int) (f t : Pe.Pair) (w : World) : Calls Tryz.prog 86 #[.agg #[.int .i64 h], .agg (pCells f), .agg (pCells t)] w fun e w' => e = .returned (.agg (hCells ⟨2, f, t, 0⟩)) ∧ Below w.heap.size w w' := by
  go_enter Tryz.func86, Tryz.ntmps86
  unfold pCells
  go_wp2
  have hb := (Blk.fresh (((w.alloc (.cells #[.int .i64 h] 109)).alloc (.cells #[.int .i64 f.1, .int .i64 f.2] 28)).alloc (.cells #[.int .i64 t.1, .int .i64 t.2] 28)) 66 #[.int .u8 2, .int .i64 f.1, .int .i64 f.2, .int .i64 t.1, .int .i64 t.2, .int .i64 0])
  simp only [World.size_alloc] at hb
  refine bodyPost_ret (results_row1 (P := Tryz.prog) (fn := Tryz.f86) rfl _ _ (w.heap.size + 1 + 1 + 1) (hCells ⟨2, f, t, 0⟩) _ rfl hb Tryz.underlying66 rfl infoHop) rfl ⟨rfl, ?_⟩
  exact ((((Below.refl _ w).alloc (Nat.le_refl _) _).alloc (by simp) _).alloc (by simp; omega) _).alloc (by simp; omega) _
set_option maxRecDepth 1000000 in
set_option maxHeartbeats 4000000 in
theorem hopF_calls (x : Pe.Ent) (f t : Pe.Pair) (w : World) : Calls Tryz.prog 87 #[.agg (eCells x), .agg (pCells f), .agg (pCells t)] w fun e w' => e = .returned (.agg (hCells ⟨1, f, t, x.order⟩)) ∧ Below w.heap.size w w' := by
  go_enter Tryz.func87, Tryz.ntmps87
  unfold pCells eCells
  go_wp2
  have hb := (Blk.fresh (((w.alloc (.cells (eCells x) 112)).alloc (.cells #[.int .i64 f.1, .int .i64 f.2] 28)).alloc (.cells #[.int .i64 t.1, .int .i64 t.2] 28)) 66 #[.int .u8 1, .int .i64 f.1, .int .i64 f.2, .int .i64 t.1, .int .i64 t.2, .int .i64 x.order])
  simp only [World.size_alloc] at hb
  refine bodyPost_ret (results_row1 (P := Tryz.prog) (fn := Tryz.f87) rfl _ _ (w.heap.size + 1 + 1 + 1) (hCells ⟨1, f, t, x.order⟩) _ rfl hb Tryz.underlying66 rfl infoHop) rfl ⟨rfl, ?_⟩
  exact ((((Below.refl _ w).alloc (Nat.le_refl _) _).alloc (by simp) _).alloc (by simp; omega) _).alloc (by simp; omega) _

theorem ta_ni (w : World) : (Instr.typeAssert .nilIface 106 109 true).run Tryz.prog w = .ok (.tuple #[.agg #[.int .i64 0], .bool false]) w := by kernel_rfl
theorem ta_nf (w : World) : (Instr.typeAssert .nilIface 106 112 true).run Tryz.prog w = .ok (.tuple #[.agg #[.int .i64 0, .int .u8 0, .int .i64 0, .int .i64 0, .int .i64 0, .int .i64 0, .int .i64 0, .int .i64 0, .int .i64 0, .string ⟨#[]⟩], .bool false]) w := by kernel_rfl
theorem ta_ii (h : Int) (w : World) : (Instr.typeAssert (.iface 109 (.agg #[.int .i64 h])) 106 109 true).run Tryz.prog w = .ok (.tuple #[.agg #[.int .i64 h], .bool true]) w := by kernel_rfl
theorem ta_fi (v : Value) (w : World) : (Instr.typeAssert (.iface 112 v) 106 109 true).run Tryz.prog w = .ok (.tuple #[.agg #[.int .i64 0], .bool false]) w := by kernel_rfl
theorem ta_ff (v : Value) (w : World) : (Instr.typeAssert (.iface 112 v) 106 112 true).run Tryz.prog w = .ok (.tuple #[v, .bool true]) w := by kernel_rfl

set_option maxRecDepth 1000000 in
set_option maxHeartbeats 8000000 in
theorem step_calls (A : Option Addr) (n c : Nat) (l : List Pe.Ent) (cd : Pe.Pair) (d : Int) (w : World) (h : EntsAt w A n l) :
    Calls Tryz.prog 57 #[.slice A n c, .agg (pCells cd), .int .i64 d] w fun e w' => e = .returned (.tuple #[.agg (hCells (Pe.step l cd d).1), .int .i64 ((Pe.step l cd d).2 : Int)]) ∧ Below w.heap.size w w' := by
  have H := Lib.hid h
  clear h
  go_enter Tryz.func57, Tryz.ntmps57
  unfold pCells
  go_wp2_with fail
  obtain ⟨b, hb⟩ : ∃ b, b = w.heap.size := ⟨_, rfl⟩
  obtain ⟨w1, hw1⟩ : ∃ w1, w1 = ((w.alloc (.cells (pCells cd) 28)).alloc (.cells #[.int .u8 0, .int .i64 0, .int .i64 0, .int .i64 0, .int .i64 0, .int .i64 0] 66)).alloc (.cells #[.int .i64 0, .int .i64 0] 28) := ⟨_, rfl⟩
  have hB1 : Below w.heap.size w w1 := by rw [hw1]; exact (((Below.refl _ w).alloc (Nat.le_refl _) _).alloc (by simp) _).alloc (by simp; omega) _
  have hc1 : Blk w1 b 28 (pCells cd) := by rw [hw1, hb]; exact ((Blk.fresh w _ _).alloc _).alloc _
  have hr1 : Blk w1 (b + 1) 66 #[.int .u8 0, .int .i64 0, .int .i64 0, .int .i64 0, .int .i64 0, .int .i64 0] := by rw [hw1, hb]; have := (Blk.fresh (w.alloc (.cells (pCells cd) 28)) 66 #[.int .u8 0, .int .i64 0, .int .i64 0, .int .i64 0, .int .i64 0, .int .i64 0]).alloc (.cells #[.int .i64 0, .int .i64 0] 28); simpa using this
  have ht1 : Blk w1 (b + 1 + 1) 28 #[.int .i64 0, .int .i64 0] := by rw [hw1, hb]; have := Blk.fresh ((w.alloc (.cells (pCells cd) 28)).alloc (.cells #[.int .u8 0, .int .i64 0, .int .i64 0, .int .i64 0, .int .i64 0, .int .i64 0] 66)) 28 #[.int .i64 0, .int .i64 0]; simpa using this
  unfold pCells at hw1
  rw [← hb, ← hw1]
  have H1 := Lib.hid (And.intro hB1 (And.intro hc1 (And.intro hr1 (And.intro ht1 hb))))
  clear hB1 hc1 hr1 ht1 hw1 hb
  have hwc := why_calls A n c l cd d w1 (H.out.below H1.out.1)
  unfold pCells at hwc
  refine hwc.mono ?_
  clear hwc
  rintro e w2 ⟨rfl, hb2⟩
  have hc2 := H1.out.2.1.below hb2 H1.out.2.1.lt
  have hr2 := H1.out.2.2.1.below hb2 H1.out.2.2.1.lt
  have ht2 := H1.out.2.2.2.1.below hb2 H1.out.2.2.2.1.lt
  have hB2 := H1.out.1.trans (hb2.mono H1.out.1.size)
  have hlow : w.heap.size ≤ b := by have := H1.out.2.2.2.2; omega
  have k0 : w2.cell? ⟨b, 0, none⟩ = some (.int .i64 cd.1) := hc2.cell 0
  have k1 : w2.cell? ⟨b, 1, none⟩ = some (.int .i64 cd.2) := hc2.cell 1
  have t0 : w2.cell? ⟨b + 1 + 1, 0, none⟩ = some (.int .i64 0) := ht2.cell 0
  have t1 : w2.cell? ⟨b + 1 + 1, 1, none⟩ = some (.int .i64 0) := ht2.cell 1
  have s0 := ht2.frozen 0
  have s1 := ht2.frozen 1
  have r0 : w2.cell? ⟨b + 1, 0, none⟩ = some (.int .u8 0) := hr2.cell 0
  have r1 : w2.cell? ⟨b + 1, 1, none⟩ = some (.int .i64 0) := hr2.cell 1
  have r2 : w2.cell? ⟨b + 1, 2, none⟩ = some (.int .i64 0) := hr2.cell 2
  have r3 : w2.cell? ⟨b + 1, 3, none⟩ = some (.int .i64 0) := hr2.cell 3
  have r4 : w2.cell? ⟨b + 1, 4, none⟩ = some (.int .i64 0) := hr2.cell 4
  have r5 : w2.cell? ⟨b + 1, 5, none⟩ = some (.int .i64 0) := hr2.cell 5
  have f0 := hr2.frozen 0
  have f1 := hr2.frozen 1
  have f2 := hr2.frozen 2
  have f3 := hr2.frozen 3
  have f4 := hr2.frozen 4
  have f5 := hr2.frozen 5
  have H2 := Lib.hid (And.intro hB2 (And.intro hc2 (And.intro hr2 ht2)))
  clear hb2 hc2 hr2 ht2 hB2
  have ta1 := ta_ni
  have ta2 := ta_nf
  dsimp only
  unfold causeV
  cases hd : Pe.dead l cd.1 d
  case true =>
    rw [if_pos (by rfl)]
    cases hh : Pe.heir? l cd.1 d with
    | none =>
      have HS := Lib.hid (show Pe.step l cd d = (Pe.noHop, 0) by unfold Pe.step; rw [if_pos hd]; simp only [hh])
      clear hd hh
      dsimp only
      go_wp2
      obtain ⟨q1, q2⟩ := H2.out.2.2.1.put6 (v0 := .int .u8 (((Pe.noHop, 0)).1.kind : Int)) (v1 := .int .i64 ((Pe.noHop, 0)).1.frm.1) (v2 := .int .i64 ((Pe.noHop, 0)).1.frm.2) (v3 := .int .i64 ((Pe.noHop, 0)).1.to.1) (v4 := .int .i64 ((Pe.noHop, 0)).1.to.2) (v5 := .int .i64 ((Pe.noHop, 0)).1.order)
      refine bodyPost_ret (results_row2 (P := Tryz.prog) (fn := Tryz.f57) rfl _ _ (b + 1) (hCells ((Pe.noHop, 0)).1) _ rfl q1 Tryz.underlying66 rfl infoHop) rfl ⟨?_, ?_⟩
      · rw [HS.out]; rfl
      · exact H2.out.1.trans (q2.below (fun i hi => by omega) H2.out.1.size)
    | some p =>
      have ta3 := ta_ii p
      obtain ⟨T, hT⟩ : ∃ T, T = Pe.reached l p d := ⟨_, rfl⟩
      have HS0 := Lib.hid (show Pe.step l cd d = if T.2 = true then ((⟨2, cd, T.1, 0⟩ : Pe.Hop), 2) else (⟨0, (0, 0), (p, 0), 0⟩, 1) by unfold Pe.step; rw [if_pos hd, hT]; simp only [hh])
      clear hd hh
      dsimp only
      have b23 : Below w2.heap.size w2 (w2.alloc (.cells #[.int .i64 p] 109)) := (Below.refl _ w2).alloc (Nat.le_refl _) _
      have hrc := reached_calls A n c l p d (w2.alloc (.cells #[.int .i64 p] 109)) ((H.out.below H2.out.1).below b23)
      rw [← hT] at hrc
      have HR := Lib.hid (And.intro hrc (And.intro b23 hT))
      clear hrc b23 hT
      go_wp2_with fail
      refine HR.out.1.mono ?_
      rintro e w3 ⟨rfl, hb3⟩
      obtain ⟨q, hq⟩ : ∃ q, q = w2.heap.size := ⟨_, rfl⟩
      have hB23 : Below w2.heap.size w2 w3 := HR.out.2.1.trans (hb3.mono HR.out.2.1.size)
      have hx3 : Blk w3 q 109 #[.int .i64 p] := by rw [hq]; exact (Blk.fresh w2 _ _).below hb3 (by simp)
      have hbq : b + 1 + 1 < q := by rw [hq]; exact H2.out.2.2.2.lt
      have H3 := Lib.hid (And.intro (H2.out.1.trans (hB23.mono H2.out.1.size)) (And.intro (H2.out.2.1.below hB23 H2.out.2.1.lt) (And.intro (H2.out.2.2.1.below hB23 H2.out.2.2.1.lt) (And.intro (H2.out.2.2.2.below hB23 H2.out.2.2.2.lt) hx3))))
      rw [← hq]
      clear k0 k1 t0 t1 s0 s1 r0 r1 r2 r3 r4 r5 f0 f1 f2 f3 f4 f5 hb3 hB23 hx3 hq
      have k0 : w3.cell? ⟨b, 0, none⟩ = some (.int .i64 cd.1) := H3.out.2.1.cell 0
      have k1 : w3.cell? ⟨b, 1, none⟩ = some (.int .i64 cd.2) := H3.out.2.1.cell 1
      have t0 : w3.cell? ⟨b + 1 + 1, 0, none⟩ = some (.int .i64 0) := H3.out.2.2.2.1.cell 0
      have t1 : w3.cell? ⟨b + 1 + 1, 1, none⟩ = some (.int .i64 0) := H3.out.2.2.2.1.cell 1
      have s0 := H3.out.2.2.2.1.frozen 0
      have s1 := H3.out.2.2.2.1.frozen 1
      have x0 : w3.cell? ⟨q, 0, none⟩ = some (.int .i64 p) := H3.out.2.2.2.2.cell 0
      have r0 : w3.cell? ⟨b + 1, 0, none⟩ = some (.int .u8 0) := H3.out.2.2.1.cell 0
      have r1 : w3.cell? ⟨b + 1, 1, none⟩ = some (.int .i64 0) := H3.out.2.2.1.cell 1
      have r2 : w3.cell? ⟨b + 1, 2, none⟩ = some (.int .i64 0) := H3.out.2.2.1.cell 2
      have r3 : w3.cell? ⟨b + 1, 3, none⟩ = some (.int .i64 0) := H3.out.2.2.1.cell 3
      have r4 : w3.cell? ⟨b + 1, 4, none⟩ = some (.int .i64 0) := H3.out.2.2.1.cell 4
      have r5 : w3.cell? ⟨b + 1, 5, none⟩ = some (.int .i64 0) := H3.out.2.2.1.cell 5
      have f0 := H3.out.2.2.1.frozen 0
      have f1 := H3.out.2.2.1.frozen 1
      have f2 := H3.out.2.2.1.frozen 2
      have f3 := H3.out.2.2.1.frozen 3
      have f4 := H3.out.2.2.1.frozen 4
      have f5 := H3.out.2.2.1.frozen 5
      obtain ⟨Tp, sb⟩ := T
      unfold pCells
      dsimp only
      cases sb
      · have HS := Lib.hid (show Pe.step l cd d = ((⟨0, (0, 0), (p, 0), 0⟩ : Pe.Hop), 1) from HS0.out)
        go_wp2
        have hr9 := (H3.out.2.2.1.far (p := ⟨b + 1 + 1, 0, none⟩) (by simp) (.int .i64 Tp.1)).far (p := ⟨b + 1 + 1, 1, none⟩) (by simp) (.int .i64 Tp.2)
        have hB9 := (H3.out.1.setCell (p := ⟨b + 1 + 1, 0, none⟩) (by simp; omega) (.int .i64 Tp.1)).setCell (p := ⟨b + 1 + 1, 1, none⟩) (by simp; omega) (.int .i64 Tp.2)
        obtain ⟨q1, q2⟩ := hr9.put6 (v0 := .int .u8 ((((⟨0, (0, 0), (p, 0), 0⟩ : Pe.Hop), 1)).1.kind : Int)) (v1 := .int .i64 (((⟨0, (0, 0), (p, 0), 0⟩ : Pe.Hop), 1)).1.frm.1) (v2 := .int .i64 (((⟨0, (0, 0), (p, 0), 0⟩ : Pe.Hop), 1)).1.frm.2) (v3 := .int .i64 (((⟨0, (0, 0), (p, 0), 0⟩ : Pe.Hop), 1)).1.to.1) (v4 := .int .i64 (((⟨0, (0, 0), (p, 0), 0⟩ : Pe.Hop), 1)).1.to.2) (v5 := .int .i64 (((⟨0, (0, 0), (p, 0), 0⟩ : Pe.Hop), 1)).1.order)
        refine bodyPost_ret (results_row2 (P := Tryz.prog) (fn := Tryz.f57) rfl _ _ (b + 1) (hCells (((⟨0, (0, 0), (p, 0), 0⟩ : Pe.Hop), 1)).1) _ rfl q1 Tryz.underlying66 rfl infoHop) rfl ⟨?_, ?_⟩
        · rw [HS.out]; rfl
        · exact hB9.trans (q2.below (fun i hi => by omega) hB9.size)
      · have HS := Lib.hid (show Pe.step l cd d = ((⟨2, cd, Tp, 0⟩ : Pe.Hop), 2) from HS0.out)
        go_wp2_with fail
        have hh9 := fun W => hopI_calls p cd Tp W
        unfold pCells at hh9
        refine (hh9 _).mono ?_
        clear hh9
        rintro e w4 ⟨rfl, hb4⟩
        have hr9 := ((H3.out.2.2.1.far (p := ⟨b + 1 + 1, 0, none⟩) (by simp) (.int .i64 Tp.1)).far (p := ⟨b + 1 + 1, 1, none⟩) (by simp) (.int .i64 Tp.2))
        have hr10 := hr9.below hb4 hr9.lt
        have hB9 := (H3.out.1.setCell (p := ⟨b + 1 + 1, 0, none⟩) (by simp; omega) (.int .i64 Tp.1)).setCell (p := ⟨b + 1 + 1, 1, none⟩) (by simp; omega) (.int .i64 Tp.2)
        have hB10 := hB9.trans (hb4.mono hB9.size)
        have H4 := Lib.hid (And.intro hr10 hB10)
        clear k0 k1 t0 t1 s0 s1 r0 r1 r2 r3 r4 r5 f0 f1 f2 f3 f4 f5 hb4 hr9 hr10 hB9 hB10
        have r0 : w4.cell? ⟨b + 1, 0, none⟩ = some (.int .u8 0) := H4.out.1.cell 0
        have r1 : w4.cell? ⟨b + 1, 1, none⟩ = some (.int .i64 0) := H4.out.1.cell 1
        have r2 : w4.cell? ⟨b + 1, 2, none⟩ = some (.int .i64 0) := H4.out.1.cell 2
        have r3 : w4.cell? ⟨b + 1, 3, none⟩ = some (.int .i64 0) := H4.out.1.cell 3
        have r4 : w4.cell? ⟨b + 1, 4, none⟩ = some (.int .i64 0) := H4.out.1.cell 4
        have r5 : w4.cell? ⟨b + 1, 5, none⟩ = some (.int .i64 0) := H4.out.1.cell 5
        have f0 := H4.out.1.frozen 0
        have f1 := H4.out.1.frozen 1
        have f2 := H4.out.1.frozen 2
        have f3 := H4.out.1.frozen 3
        have f4 := H4.out.1.frozen 4
        have f5 := H4.out.1.frozen 5
        unfold hCells
        dsimp only
        go_wp2
        obtain ⟨q1, q2⟩ := H4.out.1.put6 (v0 := .int .u8 ((((⟨2, cd, Tp, 0⟩ : Pe.Hop), 2)).1.kind : Int)) (v1 := .int .i64 (((⟨2, cd, Tp, 0⟩ : Pe.Hop), 2)).1.frm.1) (v2 := .int .i64 (((⟨2, cd, Tp, 0⟩ : Pe.Hop), 2)).1.frm.2) (v3 := .int .i64 (((⟨2, cd, Tp, 0⟩ : Pe.Hop), 2)).1.to.1) (v4 := .int .i64 (((⟨2, cd, Tp, 0⟩ : Pe.Hop), 2)).1.to.2) (v5 := .int .i64 (((⟨2, cd, Tp, 0⟩ : Pe.Hop), 2)).1.order)
        refine bodyPost_ret (results_row2 (P := Tryz.prog) (fn := Tryz.f57) rfl _ _ (b + 1) (hCells (((⟨2, cd, Tp, 0⟩ : Pe.Hop), 2)).1) _ rfl q1 Tryz.underlying66 rfl infoHop) rfl ⟨?_, ?_⟩
        · rw [HS.out]; rfl
        · exact H4.out.2.trans (q2.below (fun i hi => by omega) H4.out.2.size)
  case false =>
    rw [if_neg (by simp)]
    cases hh : Pe.order? l cd d with
    | none =>
      have HS := Lib.hid (show Pe.step l cd d = (Pe.noHop, 0) by unfold Pe.step; rw [if_neg (by rw [hd]; simp)]; simp only [hh])
      clear hd hh
      dsimp only
      go_wp2
      obtain ⟨q1, q2⟩ := H2.out.2.2.1.put6 (v0 := .int .u8 (((Pe.noHop, 0)).1.kind : Int)) (v1 := .int .i64 ((Pe.noHop, 0)).1.frm.1) (v2 := .int .i64 ((Pe.noHop, 0)).1.frm.2) (v3 := .int .i64 ((Pe.noHop, 0)).1.to.1) (v4 := .int .i64 ((Pe.noHop, 0)).1.to.2) (v5 := .int .i64 ((Pe.noHop, 0)).1.order)
      refine bodyPost_ret (results_row2 (P := Tryz.prog) (fn := Tryz.f57) rfl _ _ (b + 1) (hCells ((Pe.noHop, 0)).1) _ rfl q1 Tryz.underlying66 rfl infoHop) rfl ⟨?_, ?_⟩
      · rw [HS.out]; rfl
      · exact H2.out.1.trans (q2.below (fun i hi => by omega) H2.out.1.size)
    | some x =>
      have ta3 := ta_fi (.agg (eCells x))
      have ta4 := ta_ff (.agg (eCells x))
      unfold eCells at ta3 ta4
      obtain ⟨T, hT⟩ : ∃ T, T = Pe.target l x d := ⟨_, rfl⟩
      have HS0 := Lib.hid (show Pe.step l cd d = if T.2 = true then ((⟨1, cd, T.1, x.order⟩ : Pe.Hop), 2) else (⟨0, (0, 0), (x.other, 0), 0⟩, 1) by unfold Pe.step; rw [if_neg (by rw [hd]; simp), hT]; simp only [hh])
      clear hd hh
      unfold eCells
      dsimp only
      have b23 : Below w2.heap.size w2 (w2.alloc (.cells (eCells x) 112)) := (Below.refl _ w2).alloc (Nat.le_refl _) _
      have hrc := target_calls A n c l x d (w2.alloc (.cells (eCells x) 112)) ((H.out.below H2.out.1).below b23)
      rw [← hT] at hrc
      unfold eCells at hrc
      have HR := Lib.hid (And.intro hrc (And.intro b23 hT))
      clear hrc b23 hT
      go_wp2_with fail
      refine HR.out.1.mono ?_
      rintro e w3 ⟨rfl, hb3⟩
      obtain ⟨q, hq⟩ : ∃ q, q = w2.heap.size := ⟨_, rfl⟩
      have hB23 : Below w2.heap.size w2 w3 := HR.out.2.1.trans (hb3.mono HR.out.2.1.size)
      have hx3 : Blk w3 q 112 (eCells x) := by rw [hq]; exact (Blk.fresh w2 _ _).below hb3 (by simp)
      have hbq : b + 1 + 1 < q := by rw [hq]; exact H2.out.2.2.2.lt
      have H3 := Lib.hid (And.intro (H2.out.1.trans (hB23.mono H2.out.1.size)) (And.intro (H2.out.2.1.below hB23 H2.out.2.1.lt) (And.intro (H2.out.2.2.1.below hB23 H2.out.2.2.1.lt) (And.intro (H2.out.2.2.2.below hB23 H2.out.2.2.2.lt) hx3))))
      rw [← hq]
      clear k0 k1 t0 t1 s0 s1 r0 r1 r2 r3 r4 r5 f0 f1 f2 f3 f4 f5 hb3 hB23 hx3 hq
      have k0 : w3.cell? ⟨b, 0, none⟩ = some (.int .i64 cd.1) := H3.out.2.1.cell 0
      have k1 : w3.cell? ⟨b, 1, none⟩ = some (.int .i64 cd.2) := H3.out.2.1.cell 1
      have t0 : w3.cell? ⟨b + 1 + 1, 0, none⟩ = some (.int .i64 0) := H3.out.2.2.2.1.cell 0
      have t1 : w3.cell? ⟨b + 1 + 1, 1, none⟩ = some (.int .i64 0) := H3.out.2.2.2.1.cell 1
      have s0 := H3.out.2.2.2.1.frozen 0
      have s1 := H3.out.2.2.2.1.frozen 1
      have x0 : w3.cell? ⟨q, 0, none⟩ = some (.int .i64 x.day) := H3.out.2.2.2.2.cell 0
      have x1 : w3.cell? ⟨q, 1, none⟩ = some (.int .u8 (x.kind : Int)) := H3.out.2.2.2.2.cell 1
      have x2 : w3.cell? ⟨q, 2, none⟩ = some (.int .i64 x.since) := H3.out.2.2.2.2.cell 2
      have x3 : w3.cell? ⟨q, 3, none⟩ = some (.int .i64 x.til) := H3.out.2.2.2.2.cell 3
      have x4 : w3.cell? ⟨q, 4, none⟩ = some (.int .i64 x.person) := H3.out.2.2.2.2.cell 4
      have x5 : w3.cell? ⟨q, 5, none⟩ = some (.int .i64 x.place) := H3.out.2.2.2.2.cell 5
      have x6 : w3.cell? ⟨q, 6, none⟩ = some (.int .i64 x.other) := H3.out.2.2.2.2.cell 6
      have x7 : w3.cell? ⟨q, 7, none⟩ = some (.int .i64 x.at_) := H3.out.2.2.2.2.cell 7
      have x8 : w3.cell? ⟨q, 8, none⟩ = some (.int .i64 x.order) := H3.out.2.2.2.2.cell 8
      have x9 : w3.cell? ⟨q, 9, none⟩ = some (.string (bs x.name)) := H3.out.2.2.2.2.cell 9
      have r0 : w3.cell? ⟨b + 1, 0, none⟩ = some (.int .u8 0) := H3.out.2.2.1.cell 0
      have r1 : w3.cell? ⟨b + 1, 1, none⟩ = some (.int .i64 0) := H3.out.2.2.1.cell 1
      have r2 : w3.cell? ⟨b + 1, 2, none⟩ = some (.int .i64 0) := H3.out.2.2.1.cell 2
      have r3 : w3.cell? ⟨b + 1, 3, none⟩ = some (.int .i64 0) := H3.out.2.2.1.cell 3
      have r4 : w3.cell? ⟨b + 1, 4, none⟩ = some (.int .i64 0) := H3.out.2.2.1.cell 4
      have r5 : w3.cell? ⟨b + 1, 5, none⟩ = some (.int .i64 0) := H3.out.2.2.1.cell 5
      have f0 := H3.out.2.2.1.frozen 0
      have f1 := H3.out.2.2.1.frozen 1
      have f2 := H3.out.2.2.1.frozen 2
      have f3 := H3.out.2.2.1.frozen 3
      have f4 := H3.out.2.2.1.frozen 4
      have f5 := H3.out.2.2.1.frozen 5
      obtain ⟨Tp, sb⟩ := T
      unfold pCells
      dsimp only
      cases sb
      · have HS := Lib.hid (show Pe.step l cd d = ((⟨0, (0, 0), (x.other, 0), 0⟩ : Pe.Hop), 1) from HS0.out)
        go_wp2
        have hr9 := (H3.out.2.2.1.far (p := ⟨b + 1 + 1, 0, none⟩) (by simp) (.int .i64 Tp.1)).far (p := ⟨b + 1 + 1, 1, none⟩) (by simp) (.int .i64 Tp.2)
        have hB9 := (H3.out.1.setCell (p := ⟨b + 1 + 1, 0, none⟩) (by simp; omega) (.int .i64 Tp.1)).setCell (p := ⟨b + 1 + 1, 1, none⟩) (by simp; omega) (.int .i64 Tp.2)
        obtain ⟨q1, q2⟩ := hr9.put6 (v0 := .int .u8 ((((⟨0, (0, 0), (x.other, 0), 0⟩ : Pe.Hop), 1)).1.kind : Int)) (v1 := .int .i64 (((⟨0, (0, 0), (x.other, 0), 0⟩ : Pe.Hop), 1)).1.frm.1) (v2 := .int .i64 (((⟨0, (0, 0), (x.other, 0), 0⟩ : Pe.Hop), 1)).1.frm.2) (v3 := .int .i64 (((⟨0, (0, 0), (x.other, 0), 0⟩ : Pe.Hop), 1)).1.to.1) (v4 := .int .i64 (((⟨0, (0, 0), (x.other, 0), 0⟩ : Pe.Hop), 1)).1.to.2) (v5 := .int .i64 (((⟨0, (0, 0), (x.other, 0), 0⟩ : Pe.Hop), 1)).1.order)
        refine bodyPost_ret (results_row2 (P := Tryz.prog) (fn := Tryz.f57) rfl _ _ (b + 1) (hCells (((⟨0, (0, 0), (x.other, 0), 0⟩ : Pe.Hop), 1)).1) _ rfl q1 Tryz.underlying66 rfl infoHop) rfl ⟨?_, ?_⟩
        · rw [HS.out]; rfl
        · exact hB9.trans (q2.below (fun i hi => by omega) hB9.size)
      · have HS := Lib.hid (show Pe.step l cd d = ((⟨1, cd, Tp, x.order⟩ : Pe.Hop), 2) from HS0.out)
        go_wp2_with fail
        have hh9 := fun W => hopF_calls x cd Tp W
        unfold pCells eCells at hh9
        refine (hh9 _).mono ?_
        clear hh9
        rintro e w4 ⟨rfl, hb4⟩
        have hr9 := ((H3.out.2.2.1.far (p := ⟨b + 1 + 1, 0, none⟩) (by simp) (.int .i64 Tp.1)).far (p := ⟨b + 1 + 1, 1, none⟩) (by simp) (.int .i64 Tp.2))
        have hr10 := hr9.below hb4 hr9.lt
        have hB9 := (H3.out.1.setCell (p := ⟨b + 1 + 1, 0, none⟩) (by simp; omega) (.int .i64 Tp.1)).setCell (p := ⟨b + 1 + 1, 1, none⟩) (by simp; omega) (.int .i64 Tp.2)
        have hB10 := hB9.trans (hb4.mono hB9.size)
        have H4 := Lib.hid (And.intro hr10 hB10)
        clear x0 x1 x2 x3 x4 x5 x6 x7 x8 x9
        clear k0 k1 t0 t1 s0 s1 r0 r1 r2 r3 r4 r5 f0 f1 f2 f3 f4 f5 hb4 hr9 hr10 hB9 hB10
        have r0 : w4.cell? ⟨b + 1, 0, none⟩ = some (.int .u8 0) := H4.out.1.cell 0
        have r1 : w4.cell? ⟨b + 1, 1, none⟩ = some (.int .i64 0) := H4.out.1.cell 1
        have r2 : w4.cell? ⟨b + 1, 2, none⟩ = some (.int .i64 0) := H4.out.1.cell 2
        have r3 : w4.cell? ⟨b + 1, 3, none⟩ = some (.int .i64 0) := H4.out.1.cell 3
        have r4 : w4.cell? ⟨b + 1, 4, none⟩ = some (.int .i64 0) := H4.out.1.cell 4
        have r5 : w4.cell? ⟨b + 1, 5, none⟩ = some (.int .i64 0) := H4.out.1.cell 5
        have f0 := H4.out.1.frozen 0
        have f1 := H4.out.1.frozen 1
        have f2 := H4.out.1.frozen 2
        have f3 := H4.out.1.frozen 3
        have f4 := H4.out.1.frozen 4
        have f5 := H4.out.1.frozen 5
        unfold hCells
        dsimp only
        go_wp2
        obtain ⟨q1, q2⟩ := H4.out.1.put6 (v0 := .int .u8 ((((⟨1, cd, Tp, x.order⟩ : Pe.Hop), 2)).1.kind : Int)) (v1 := .int .i64 (((⟨1, cd, Tp, x.order⟩ : Pe.Hop), 2)).1.frm.1) (v2 := .int .i64 (((⟨1, cd, Tp, x.order⟩ : Pe.Hop), 2)).1.frm.2) (v3 := .int .i64 (((⟨1, cd, Tp, x.order⟩ : Pe.Hop), 2)).1.to.1) (v4 := .int .i64 (((⟨1, cd, Tp, x.order⟩ : Pe.Hop), 2)).1.to.2) (v5 := .int .i64 (((⟨1, cd, Tp, x.order⟩ : Pe.Hop), 2)).1.order)
        refine bodyPost_ret (results_row2 (P := Tryz.prog) (fn := Tryz.f57) rfl _ _ (b + 1) (hCells (((⟨1, cd, Tp, x.order⟩ : Pe.Hop), 2)).1) _ rfl q1 Tryz.underlying66 rfl infoHop) rfl ⟨?_, ?_⟩
        · rw [HS.out]; rfl
        · exact H4.out.2.trans (q2.below (fun i hi => by omega) H4.out.2.size)

end Go.Proofs.YtnphlekailodkaaGreatDoor
