/-
  The reference's hop, walked.
-/
import Derived.Test.YtnphlekailodkaaGreatDoorRp5
import Derived.Test.YtnphlekailodkaaGreatDoorRp4
namespace Go.Proofs.YtnphlekailodkaaGreatDoor
open Go.RowKit

/-- Two results, the second a row of cells. -/
theorem results_row_last {P : Program} {fn : Func} {p u : Tmp} {ty : TypeId} (h : fn.results = #[.tmp u, .cell p ty]) (tmps : Array Value) (w : World) (g : Nat) (cs : Array Value) (d : TypeDesc)
    (hp : tmps.getD p undef = .pointer (some ⟨g, 0, none⟩)) (hg : Blk w g ty cs) (hu : P.underlying ty = some d) (hd : (match d with | .struct _ | .array _ _ => true | _ => false) = true) (hi : (P.info? ty).map (·.size) = some cs.size) :
    (results fn tmps).run P w = .ok (.tuple #[tmps.getD u undef, .agg cs]) w := by
  have h0 : (results fn tmps).run P w = ((asAddr (tmps.getD p undef)).run P w).andThen fun a w₁ => ((loadVar ty a).run P w₁).andThen fun v w₂ => .ok (.tuple #[tmps.getD u undef, v]) w₂ := by
    simp only [results, h]
    simp [Sem.run_bind, Result.andThen]
  rw [h0]
  have ha : (asAddr (tmps.getD p undef)).run P w = .ok ⟨g, 0, none⟩ w := by rw [hp]; rfl
  have hl : (loadVar ty ⟨g, 0, none⟩).run P w = .ok (.agg cs) w := run_loadVar_row _ _ ty ty cs (0, 0) _ hg hu hd hi
  rw [ha]
  simp only [Result.andThen]
  rw [hl]

/-- The reference's word for how a hop ends. -/
def Pe.rcode (k : Nat) : Nat := if k = 1 then 2 else if k = 2 then 1 else 0

set_option maxRecDepth 1000000 in
set_option maxHeartbeats 8000000 in
theorem rhop_calls (A : Option Addr) (n c : Nat) (l : List Pe.Ent) (cd : Pe.Pair) (d : Int) (w : World) (h : EntsAt w A n l) :
    Calls Tryz.prog 91 #[.slice A n c, .agg (pCells cd), .int .i64 d] w fun e w' => e = .returned (.tuple #[.int .i64 (Pe.rcode (Pe.step l cd d).2 : Int), .agg (hCells (Pe.step l cd d).1)]) ∧ Below w.heap.size w w' := by
  have H := Lib.hid h
  obtain ⟨S, hS⟩ : ∃ S, S = Pe.step l cd d := ⟨_, rfl⟩
  rw [← hS]
  obtain ⟨D, hD⟩ : ∃ D, D = Pe.dead l cd.1 d := ⟨_, rfl⟩
  have hdc := fun w0 (hb : Below w.heap.size w w0) => rDead_calls A n c l cd.1 d w0 (H.out.below hb)
  rw [← hD] at hdc
  have HS0 := Lib.hid (And.intro hS hD)
  have HDC := Lib.hid hdc
  clear h hD hdc hS
  go_enter Tryz.func91, Tryz.ntmps91
  unfold pCells
  go_upto_region 1 with fail
  obtain ⟨b, hb⟩ : ∃ b, b = w.heap.size := ⟨_, rfl⟩
  obtain ⟨w1, hw1⟩ : ∃ w1, w1 = (w.alloc (.cells (pCells cd) 28)).alloc (.cells #[.int .u8 0, .int .i64 0, .int .i64 0, .int .i64 0, .int .i64 0, .int .i64 0] 66) := ⟨_, rfl⟩
  have hB1 : Below w.heap.size w w1 := by rw [hw1]; exact ((Below.refl _ w).alloc (Nat.le_refl _) _).alloc (by simp) _
  have hc1 : Blk w1 b 28 (pCells cd) := by rw [hw1, hb]; exact (Blk.fresh w _ _).alloc _
  have hr1 : Blk w1 (b + 1) 66 #[.int .u8 0, .int .i64 0, .int .i64 0, .int .i64 0, .int .i64 0, .int .i64 0] := by rw [hw1, hb]; have := Blk.fresh (w.alloc (.cells (pCells cd) 28)) 66 #[.int .u8 0, .int .i64 0, .int .i64 0, .int .i64 0, .int .i64 0, .int .i64 0]; simpa using this
  unfold pCells at hw1
  rw [← hb, ← hw1]
  have hlow : w.heap.size ≤ b := by omega
  have H1 := Lib.hid (And.intro hB1 (And.intro hc1 hr1))
  have k0 : w1.cell? ⟨b, 0, none⟩ = some (.int .i64 cd.1) := hc1.cell 0
  clear hB1 hc1 hr1 hw1 hb
  go_wp2_with fail
  refine (HDC.out w1 H1.out.1).mono ?_
  rintro e w2 ⟨rfl, hb2⟩
  have H2 := Lib.hid (And.intro (H1.out.1.trans (hb2.mono H1.out.1.size)) (And.intro (H1.out.2.1.below hb2 H1.out.2.1.lt) (H1.out.2.2.below hb2 H1.out.2.2.lt)))
  clear hb2 k0
  dsimp only
  cases D
  case true =>
    have k0 : w2.cell? ⟨b, 0, none⟩ = some (.int .i64 cd.1) := H2.out.2.1.cell 0
    have k1 : w2.cell? ⟨b, 1, none⟩ = some (.int .i64 cd.2) := H2.out.2.1.cell 1
    obtain ⟨hv, hhv⟩ : ∃ hv, hv = Pe.heir? l cd.1 d := ⟨_, rfl⟩
    have hhc := rHeir_calls A n c l cd.1 d w2 (H.out.below H2.out.1)
    rw [← hhv] at hhc
    have HHC := Lib.hid hhc
    have HHV := Lib.hid hhv
    clear hhc hhv
    go_wp2_with fail
    refine HHC.out.mono ?_
    rintro e w3 ⟨rfl, hb3⟩
    have H3 := Lib.hid (And.intro (H2.out.1.trans (hb3.mono H2.out.1.size)) (And.intro (H2.out.2.1.below hb3 H2.out.2.1.lt) (H2.out.2.2.below hb3 H2.out.2.2.lt)))
    clear hb3 k0 k1
    cases hv with
    | none =>
      have HS := Lib.hid (show S = (Pe.noHop, 0) by rw [HS0.out.1, Pe.step, if_pos HS0.out.2.symm, ← HHV.out])
      have r0 : w3.cell? ⟨b + 1, 0, none⟩ = some (.int .u8 0) := H3.out.2.2.cell 0
      have r1 : w3.cell? ⟨b + 1, 1, none⟩ = some (.int .i64 0) := H3.out.2.2.cell 1
      have r2 : w3.cell? ⟨b + 1, 2, none⟩ = some (.int .i64 0) := H3.out.2.2.cell 2
      have r3 : w3.cell? ⟨b + 1, 3, none⟩ = some (.int .i64 0) := H3.out.2.2.cell 3
      have r4 : w3.cell? ⟨b + 1, 4, none⟩ = some (.int .i64 0) := H3.out.2.2.cell 4
      have r5 : w3.cell? ⟨b + 1, 5, none⟩ = some (.int .i64 0) := H3.out.2.2.cell 5
      have f0 := H3.out.2.2.frozen 0
      have f1 := H3.out.2.2.frozen 1
      have f2 := H3.out.2.2.frozen 2
      have f3 := H3.out.2.2.frozen 3
      have f4 := H3.out.2.2.frozen 4
      have f5 := H3.out.2.2.frozen 5
      have lr : b + 1 < w3.heap.size := H3.out.2.2.lt
      dsimp only [Option.getD, Option.isSome]
      go_wp2
      obtain ⟨q1, q2⟩ := H3.out.2.2.put6 (v0 := .int .u8 (((Pe.noHop, 0)).1.kind : Int)) (v1 := .int .i64 ((Pe.noHop, 0)).1.frm.1) (v2 := .int .i64 ((Pe.noHop, 0)).1.frm.2) (v3 := .int .i64 ((Pe.noHop, 0)).1.to.1) (v4 := .int .i64 ((Pe.noHop, 0)).1.to.2) (v5 := .int .i64 ((Pe.noHop, 0)).1.order)
      refine bodyPost_ret (results_row_last (P := Tryz.prog) (fn := Tryz.f91) rfl _ _ (b + 1) (hCells ((Pe.noHop, 0)).1) _ rfl q1 Tryz.underlying66 rfl infoHop) rfl ⟨?_, ?_⟩
      · rw [HS.out]; rfl
      · exact H3.out.1.trans (q2.below (fun i hi => by omega) H3.out.1.size)
    | some p =>
      obtain ⟨⟨T, sb⟩, hT⟩ : ∃ T, T = Pe.reached l p d := ⟨_, rfl⟩
      have HS1 := Lib.hid (show S = if sb = true then ((⟨2, cd, T, 0⟩ : Pe.Hop), 2) else (⟨0, (0, 0), (p, 0), 0⟩, 1) by rw [HS0.out.1, Pe.step, if_pos HS0.out.2.symm, ← HHV.out]; simp only; rw [← hT])
      have hrc := rReached_calls A n c l p d w3 (H.out.below H3.out.1)
      rw [← hT] at hrc
      have HRC := Lib.hid hrc
      clear hrc hT
      dsimp only [Option.getD, Option.isSome]
      go_wp2_with fail
      refine HRC.out.mono ?_
      rintro e w4 ⟨rfl, hb4⟩
      have H4 := Lib.hid (And.intro (H3.out.1.trans (hb4.mono H3.out.1.size)) (And.intro (H3.out.2.1.below hb4 H3.out.2.1.lt) (H3.out.2.2.below hb4 H3.out.2.2.lt)))
      clear hb4
      unfold pCells
      dsimp only
      go_upto_region 7 with fail
      obtain ⟨g, hg⟩ : ∃ g, g = w4.heap.size := ⟨_, rfl⟩
      obtain ⟨w5, hw⟩ : ∃ w0, w0 = w4.alloc (.cells #[.int .i64 T.1, .int .i64 T.2] 28) := ⟨_, rfl⟩
      have hbl : Below w4.heap.size w4 w5 := by rw [hw]; exact (Below.refl _ w4).alloc (Nat.le_refl _) _
      have hgb : Blk w5 g 28 #[.int .i64 T.1, .int .i64 T.2] := by rw [hw, hg]; exact Blk.fresh _ _ _
      rw [← hg, ← hw]
      clear hg hw
      have H5 := Lib.hid (And.intro (H4.out.1.trans (hbl.mono H4.out.1.size)) (And.intro (H4.out.2.1.below hbl H4.out.2.1.lt) (And.intro (H4.out.2.2.below hbl H4.out.2.2.lt) hgb)))
      clear hbl hgb
      have r0 : w5.cell? ⟨b + 1, 0, none⟩ = some (.int .u8 0) := H5.out.2.2.1.cell 0
      have r1 : w5.cell? ⟨b + 1, 1, none⟩ = some (.int .i64 0) := H5.out.2.2.1.cell 1
      have r2 : w5.cell? ⟨b + 1, 2, none⟩ = some (.int .i64 0) := H5.out.2.2.1.cell 2
      have r3 : w5.cell? ⟨b + 1, 3, none⟩ = some (.int .i64 0) := H5.out.2.2.1.cell 3
      have r4 : w5.cell? ⟨b + 1, 4, none⟩ = some (.int .i64 0) := H5.out.2.2.1.cell 4
      have r5 : w5.cell? ⟨b + 1, 5, none⟩ = some (.int .i64 0) := H5.out.2.2.1.cell 5
      have f0 := H5.out.2.2.1.frozen 0
      have f1 := H5.out.2.2.1.frozen 1
      have f2 := H5.out.2.2.1.frozen 2
      have f3 := H5.out.2.2.1.frozen 3
      have f4 := H5.out.2.2.1.frozen 4
      have f5 := H5.out.2.2.1.frozen 5
      have lr : b + 1 < w5.heap.size := H5.out.2.2.1.lt
      cases sb
      · have HS := Lib.hid (show S = ((⟨0, (0, 0), (p, 0), 0⟩ : Pe.Hop), 1) from HS1.out)
        go_wp2
        obtain ⟨q1, q2⟩ := H5.out.2.2.1.put6 (v0 := .int .u8 ((((⟨0, (0, 0), (p, 0), 0⟩ : Pe.Hop), 1)).1.kind : Int)) (v1 := .int .i64 (((⟨0, (0, 0), (p, 0), 0⟩ : Pe.Hop), 1)).1.frm.1) (v2 := .int .i64 (((⟨0, (0, 0), (p, 0), 0⟩ : Pe.Hop), 1)).1.frm.2) (v3 := .int .i64 (((⟨0, (0, 0), (p, 0), 0⟩ : Pe.Hop), 1)).1.to.1) (v4 := .int .i64 (((⟨0, (0, 0), (p, 0), 0⟩ : Pe.Hop), 1)).1.to.2) (v5 := .int .i64 (((⟨0, (0, 0), (p, 0), 0⟩ : Pe.Hop), 1)).1.order)
        refine bodyPost_ret (results_row_last (P := Tryz.prog) (fn := Tryz.f91) rfl _ _ (b + 1) (hCells (((⟨0, (0, 0), (p, 0), 0⟩ : Pe.Hop), 1)).1) _ rfl q1 Tryz.underlying66 rfl infoHop) rfl ⟨?_, ?_⟩
        · rw [HS.out]; rfl
        · exact H5.out.1.trans (q2.below (fun i hi => by omega) H5.out.1.size)
      · have HS := Lib.hid (show S = ((⟨2, cd, T, 0⟩ : Pe.Hop), 2) from HS1.out)
        have k0 : w5.cell? ⟨b, 0, none⟩ = some (.int .i64 cd.1) := H5.out.2.1.cell 0
        have k1 : w5.cell? ⟨b, 1, none⟩ = some (.int .i64 cd.2) := H5.out.2.1.cell 1
        have t0 : w5.cell? ⟨g, 0, none⟩ = some (.int .i64 T.1) := H5.out.2.2.2.cell 0
        have t1 : w5.cell? ⟨g, 1, none⟩ = some (.int .i64 T.2) := H5.out.2.2.2.cell 1
        go_upto_region 9 with fail
        go_region
        go_wp2
        obtain ⟨q1, q2⟩ := H5.out.2.2.1.put6 (v0 := .int .u8 ((((⟨2, cd, T, 0⟩ : Pe.Hop), 2)).1.kind : Int)) (v1 := .int .i64 (((⟨2, cd, T, 0⟩ : Pe.Hop), 2)).1.frm.1) (v2 := .int .i64 (((⟨2, cd, T, 0⟩ : Pe.Hop), 2)).1.frm.2) (v3 := .int .i64 (((⟨2, cd, T, 0⟩ : Pe.Hop), 2)).1.to.1) (v4 := .int .i64 (((⟨2, cd, T, 0⟩ : Pe.Hop), 2)).1.to.2) (v5 := .int .i64 (((⟨2, cd, T, 0⟩ : Pe.Hop), 2)).1.order)
        refine bodyPost_ret (results_row_last (P := Tryz.prog) (fn := Tryz.f91) rfl _ _ (b + 1) (hCells (((⟨2, cd, T, 0⟩ : Pe.Hop), 2)).1) _ rfl q1.drew Tryz.underlying66 rfl infoHop) rfl ⟨?_, ?_⟩
        · rw [HS.out]; rfl
        · exact (H5.out.1.trans (q2.below (fun i hi => by omega) H5.out.1.size)).drew
  have k0 : w2.cell? ⟨b, 0, none⟩ = some (.int .i64 cd.1) := H2.out.2.1.cell 0
  have k1 : w2.cell? ⟨b, 1, none⟩ = some (.int .i64 cd.2) := H2.out.2.1.cell 1
  obtain ⟨ov, hov⟩ : ∃ ov, ov = Pe.order? l cd d := ⟨_, rfl⟩
  have hoc := rOrder_calls A n c l cd d w2 (H.out.below H2.out.1)
  rw [← hov] at hoc
  unfold pCells at hoc
  have HOC := Lib.hid hoc
  have HOV := Lib.hid hov
  clear hoc hov
  go_wp2_with fail
  refine HOC.out.mono ?_
  rintro e w3 ⟨rfl, hb3⟩
  have H3 := Lib.hid (And.intro (H2.out.1.trans (hb3.mono H2.out.1.size)) (And.intro (H2.out.2.1.below hb3 H2.out.2.1.lt) (H2.out.2.2.below hb3 H2.out.2.2.lt)))
  clear hb3 k0 k1
  obtain ⟨x, hx⟩ : ∃ x, x = ov.getD Pe.zero := ⟨_, rfl⟩
  rw [← hx]
  have HX := Lib.hid hx
  clear hx
  unfold eCells
  dsimp only
  go_upto_region 11 with fail
  obtain ⟨xb, hg⟩ : ∃ g, g = w3.heap.size := ⟨_, rfl⟩
  obtain ⟨w4, hw⟩ : ∃ w0, w0 = w3.alloc (.cells (eCells x) 31) := ⟨_, rfl⟩
  have hbl : Below w3.heap.size w3 w4 := by rw [hw]; exact (Below.refl _ w3).alloc (Nat.le_refl _) _
  have hgb : Blk w4 xb 31 (eCells x) := by rw [hw, hg]; exact Blk.fresh _ _ _
  unfold eCells at hw
  rw [← hg, ← hw]
  have H4 := Lib.hid (And.intro (H3.out.1.trans (hbl.mono H3.out.1.size)) (And.intro (H3.out.2.1.below hbl H3.out.2.1.lt) (And.intro (H3.out.2.2.below hbl H3.out.2.2.lt) hgb)))
  clear hbl hgb hg hw
  cases ov with
  | none =>
    have HS := Lib.hid (show S = (Pe.noHop, 0) by rw [HS0.out.1, Pe.step, if_neg (by rw [← HS0.out.2]; simp), ← HOV.out])
    have r0 : w4.cell? ⟨b + 1, 0, none⟩ = some (.int .u8 0) := H4.out.2.2.1.cell 0
    have r1 : w4.cell? ⟨b + 1, 1, none⟩ = some (.int .i64 0) := H4.out.2.2.1.cell 1
    have r2 : w4.cell? ⟨b + 1, 2, none⟩ = some (.int .i64 0) := H4.out.2.2.1.cell 2
    have r3 : w4.cell? ⟨b + 1, 3, none⟩ = some (.int .i64 0) := H4.out.2.2.1.cell 3
    have r4 : w4.cell? ⟨b + 1, 4, none⟩ = some (.int .i64 0) := H4.out.2.2.1.cell 4
    have r5 : w4.cell? ⟨b + 1, 5, none⟩ = some (.int .i64 0) := H4.out.2.2.1.cell 5
    have f0 := H4.out.2.2.1.frozen 0
    have f1 := H4.out.2.2.1.frozen 1
    have f2 := H4.out.2.2.1.frozen 2
    have f3 := H4.out.2.2.1.frozen 3
    have f4 := H4.out.2.2.1.frozen 4
    have f5 := H4.out.2.2.1.frozen 5
    have lr : b + 1 < w4.heap.size := H4.out.2.2.1.lt
    dsimp only [Option.isSome]
    go_wp2
    obtain ⟨q1, q2⟩ := H4.out.2.2.1.put6 (v0 := .int .u8 (((Pe.noHop, 0)).1.kind : Int)) (v1 := .int .i64 ((Pe.noHop, 0)).1.frm.1) (v2 := .int .i64 ((Pe.noHop, 0)).1.frm.2) (v3 := .int .i64 ((Pe.noHop, 0)).1.to.1) (v4 := .int .i64 ((Pe.noHop, 0)).1.to.2) (v5 := .int .i64 ((Pe.noHop, 0)).1.order)
    refine bodyPost_ret (results_row_last (P := Tryz.prog) (fn := Tryz.f91) rfl _ _ (b + 1) (hCells ((Pe.noHop, 0)).1) _ rfl q1 Tryz.underlying66 rfl infoHop) rfl ⟨?_, ?_⟩
    · rw [HS.out]; rfl
    · exact H4.out.1.trans (q2.below (fun i hi => by omega) H4.out.1.size)
  | some y =>
    obtain rfl : x = y := HX.out
    obtain ⟨⟨T, sb⟩, hT⟩ : ∃ T, T = Pe.target l x d := ⟨_, rfl⟩
    have HS1 := Lib.hid (show S = if sb = true then ((⟨1, cd, T, x.order⟩ : Pe.Hop), 2) else (⟨0, (0, 0), (x.other, 0), 0⟩, 1) by rw [HS0.out.1, Pe.step, if_neg (by rw [← HS0.out.2]; simp), ← HOV.out]; simp only; rw [← hT])
    have hrc := rtarget_calls A n c l x d w4 (H.out.below H4.out.1)
    rw [← hT] at hrc
    unfold eCells at hrc
    have HRC := Lib.hid hrc
    clear hrc hT
    have c0 : w4.cell? ⟨xb, 0, none⟩ = some (.int .i64 x.day) := H4.out.2.2.2.cell 0
    have c1 : w4.cell? ⟨xb, 1, none⟩ = some (.int .u8 (x.kind : Int)) := H4.out.2.2.2.cell 1
    have c2 : w4.cell? ⟨xb, 2, none⟩ = some (.int .i64 x.since) := H4.out.2.2.2.cell 2
    have c3 : w4.cell? ⟨xb, 3, none⟩ = some (.int .i64 x.til) := H4.out.2.2.2.cell 3
    have c4 : w4.cell? ⟨xb, 4, none⟩ = some (.int .i64 x.person) := H4.out.2.2.2.cell 4
    have c5 : w4.cell? ⟨xb, 5, none⟩ = some (.int .i64 x.place) := H4.out.2.2.2.cell 5
    have c6 : w4.cell? ⟨xb, 6, none⟩ = some (.int .i64 x.other) := H4.out.2.2.2.cell 6
    have c7 : w4.cell? ⟨xb, 7, none⟩ = some (.int .i64 x.at_) := H4.out.2.2.2.cell 7
    have c8 : w4.cell? ⟨xb, 8, none⟩ = some (.int .i64 x.order) := H4.out.2.2.2.cell 8
    have c9 : w4.cell? ⟨xb, 9, none⟩ = some (.string (bs x.name)) := H4.out.2.2.2.cell 9
    dsimp only [Option.isSome]
    go_wp2_with fail
    refine HRC.out.mono ?_
    rintro e w5 ⟨rfl, hb5⟩
    have H5 := Lib.hid (And.intro (H4.out.1.trans (hb5.mono H4.out.1.size)) (And.intro (H4.out.2.1.below hb5 H4.out.2.1.lt) (And.intro (H4.out.2.2.1.below hb5 H4.out.2.2.1.lt) (H4.out.2.2.2.below hb5 H4.out.2.2.2.lt))))
    clear c0 c1 c2 c3 c4 c5 c6 c7 c8 c9
    clear hb5
    unfold pCells
    dsimp only
    go_upto_region 14 with fail
    obtain ⟨g, hg⟩ : ∃ g, g = w5.heap.size := ⟨_, rfl⟩
    obtain ⟨w6, hw⟩ : ∃ w0, w0 = w5.alloc (.cells #[.int .i64 T.1, .int .i64 T.2] 28) := ⟨_, rfl⟩
    have hbl : Below w5.heap.size w5 w6 := by rw [hw]; exact (Below.refl _ w5).alloc (Nat.le_refl _) _
    have hgb : Blk w6 g 28 #[.int .i64 T.1, .int .i64 T.2] := by rw [hw, hg]; exact Blk.fresh _ _ _
    rw [← hg, ← hw]
    clear hg hw
    have H6 := Lib.hid (And.intro (H5.out.1.trans (hbl.mono H5.out.1.size)) (And.intro (H5.out.2.1.below hbl H5.out.2.1.lt) (And.intro (H5.out.2.2.1.below hbl H5.out.2.2.1.lt) (And.intro (H5.out.2.2.2.below hbl H5.out.2.2.2.lt) hgb))))
    clear hbl hgb
    have r0 : w6.cell? ⟨b + 1, 0, none⟩ = some (.int .u8 0) := H6.out.2.2.1.cell 0
    have r1 : w6.cell? ⟨b + 1, 1, none⟩ = some (.int .i64 0) := H6.out.2.2.1.cell 1
    have r2 : w6.cell? ⟨b + 1, 2, none⟩ = some (.int .i64 0) := H6.out.2.2.1.cell 2
    have r3 : w6.cell? ⟨b + 1, 3, none⟩ = some (.int .i64 0) := H6.out.2.2.1.cell 3
    have r4 : w6.cell? ⟨b + 1, 4, none⟩ = some (.int .i64 0) := H6.out.2.2.1.cell 4
    have r5 : w6.cell? ⟨b + 1, 5, none⟩ = some (.int .i64 0) := H6.out.2.2.1.cell 5
    have f0 := H6.out.2.2.1.frozen 0
    have f1 := H6.out.2.2.1.frozen 1
    have f2 := H6.out.2.2.1.frozen 2
    have f3 := H6.out.2.2.1.frozen 3
    have f4 := H6.out.2.2.1.frozen 4
    have f5 := H6.out.2.2.1.frozen 5
    have lr : b + 1 < w6.heap.size := H6.out.2.2.1.lt
    have c0 : w6.cell? ⟨xb, 0, none⟩ = some (.int .i64 x.day) := H6.out.2.2.2.1.cell 0
    have c1 : w6.cell? ⟨xb, 1, none⟩ = some (.int .u8 (x.kind : Int)) := H6.out.2.2.2.1.cell 1
    have c2 : w6.cell? ⟨xb, 2, none⟩ = some (.int .i64 x.since) := H6.out.2.2.2.1.cell 2
    have c3 : w6.cell? ⟨xb, 3, none⟩ = some (.int .i64 x.til) := H6.out.2.2.2.1.cell 3
    have c4 : w6.cell? ⟨xb, 4, none⟩ = some (.int .i64 x.person) := H6.out.2.2.2.1.cell 4
    have c5 : w6.cell? ⟨xb, 5, none⟩ = some (.int .i64 x.place) := H6.out.2.2.2.1.cell 5
    have c6 : w6.cell? ⟨xb, 6, none⟩ = some (.int .i64 x.other) := H6.out.2.2.2.1.cell 6
    have c7 : w6.cell? ⟨xb, 7, none⟩ = some (.int .i64 x.at_) := H6.out.2.2.2.1.cell 7
    have c8 : w6.cell? ⟨xb, 8, none⟩ = some (.int .i64 x.order) := H6.out.2.2.2.1.cell 8
    have c9 : w6.cell? ⟨xb, 9, none⟩ = some (.string (bs x.name)) := H6.out.2.2.2.1.cell 9
    cases sb
    · have HS := Lib.hid (show S = ((⟨0, (0, 0), (x.other, 0), 0⟩ : Pe.Hop), 1) from HS1.out)
      go_upto_region 15 with fail
      go_region
      go_wp2
      obtain ⟨q1, q2⟩ := H6.out.2.2.1.put6 (v0 := .int .u8 ((((⟨0, (0, 0), (x.other, 0), 0⟩ : Pe.Hop), 1)).1.kind : Int)) (v1 := .int .i64 (((⟨0, (0, 0), (x.other, 0), 0⟩ : Pe.Hop), 1)).1.frm.1) (v2 := .int .i64 (((⟨0, (0, 0), (x.other, 0), 0⟩ : Pe.Hop), 1)).1.frm.2) (v3 := .int .i64 (((⟨0, (0, 0), (x.other, 0), 0⟩ : Pe.Hop), 1)).1.to.1) (v4 := .int .i64 (((⟨0, (0, 0), (x.other, 0), 0⟩ : Pe.Hop), 1)).1.to.2) (v5 := .int .i64 (((⟨0, (0, 0), (x.other, 0), 0⟩ : Pe.Hop), 1)).1.order)
      refine bodyPost_ret (results_row_last (P := Tryz.prog) (fn := Tryz.f91) rfl _ _ (b + 1) (hCells (((⟨0, (0, 0), (x.other, 0), 0⟩ : Pe.Hop), 1)).1) _ rfl q1.drew Tryz.underlying66 rfl infoHop) rfl ⟨?_, ?_⟩
      · rw [HS.out]; rfl
      · exact (H6.out.1.trans (q2.below (fun i hi => by omega) H6.out.1.size)).drew
    · have HS := Lib.hid (show S = ((⟨1, cd, T, x.order⟩ : Pe.Hop), 2) from HS1.out)
      have k0 : w6.cell? ⟨b, 0, none⟩ = some (.int .i64 cd.1) := H6.out.2.1.cell 0
      have k1 : w6.cell? ⟨b, 1, none⟩ = some (.int .i64 cd.2) := H6.out.2.1.cell 1
      have t0 : w6.cell? ⟨g, 0, none⟩ = some (.int .i64 T.1) := H6.out.2.2.2.2.cell 0
      have t1 : w6.cell? ⟨g, 1, none⟩ = some (.int .i64 T.2) := H6.out.2.2.2.2.cell 1
      go_upto_region 16 with fail
      go_region
      go_wp2
      obtain ⟨q1, q2⟩ := H6.out.2.2.1.put6 (v0 := .int .u8 ((((⟨1, cd, T, x.order⟩ : Pe.Hop), 2)).1.kind : Int)) (v1 := .int .i64 (((⟨1, cd, T, x.order⟩ : Pe.Hop), 2)).1.frm.1) (v2 := .int .i64 (((⟨1, cd, T, x.order⟩ : Pe.Hop), 2)).1.frm.2) (v3 := .int .i64 (((⟨1, cd, T, x.order⟩ : Pe.Hop), 2)).1.to.1) (v4 := .int .i64 (((⟨1, cd, T, x.order⟩ : Pe.Hop), 2)).1.to.2) (v5 := .int .i64 (((⟨1, cd, T, x.order⟩ : Pe.Hop), 2)).1.order)
      refine bodyPost_ret (results_row_last (P := Tryz.prog) (fn := Tryz.f91) rfl _ _ (b + 1) (hCells (((⟨1, cd, T, x.order⟩ : Pe.Hop), 2)).1) _ rfl q1.drew Tryz.underlying66 rfl infoHop) rfl ⟨?_, ?_⟩
      · rw [HS.out]; rfl
      · exact (H6.out.1.trans (q2.below (fun i hi => by omega) H6.out.1.size)).drew

end Go.Proofs.YtnphlekailodkaaGreatDoor
