/-
  The reference's Follow, walked.
-/
import Derived.Test.YtnphlekailodkaaGreatDoorRp6
import Derived.Test.YtnphlekailodkaaGreatDoorHp
import Derived.Test.YtnphlekailodkaaGreatDoorRi
namespace Go.Proofs.YtnphlekailodkaaGreatDoor
open Go.RowKit

/-- The memory of the reference's walk. -/
structure RfB (w : World) (b r : Nat) (cs : Array Value) (n : Nat) (hs : List Pe.Hop) (v : Value) (W : World) : Prop where
  rt : Blk W r 34 cs
  rs : Blk W (b + 1) 34 #[.int .u8 0, .int .i64 0, .int .i64 0, .slice none 0 0, .int .i64 0]
  own : W.ownsRow (r + 1) 66 6 v n (hRow hs)
  bel : Below w.heap.size w W
  len : n = hs.length
section
variable {w : World} {b r n n' : Nat} {cs : Array Value} {hs hs' : List Pe.Hop} {v v' : Value} {W W' : World}
theorem RfB.below (h : RfB w b r cs n hs v W) (hb : Below W.heap.size W W') : RfB w b r cs n hs v W' :=
  ⟨h.rt.below hb h.rt.lt, h.rs.below hb h.rs.lt, own_below h.own hb, h.bel.trans (hb.mono h.bel.size), h.len⟩
theorem RfB.set (h : RfB w b r cs n hs v W) (hr : r = b + 2 ∧ w.heap.size = b) (i : Nat) (u : Value) : RfB w b r (cs.setIfInBounds i u) n hs v (W.setCell ⟨r, i, none⟩ u) :=
  ⟨h.rt.put i u, h.rs.far (by simp; omega) u, own_far h.own (by simp) u, h.bel.setCell (by simp; omega) u, h.len⟩
theorem RfB.app (h : RfB w b r cs n hs v W) (hr : r = b + 2 ∧ w.heap.size = b) (hg : W.grownBy W' v.ownBlock) (ho : W'.ownsRow (r + 1) 66 6 v' n' (hRow hs')) (hn : n' = hs'.length) : RfB w b r cs n' hs' v' W' :=
  ⟨h.rt.grown hg (own_low h.own (by omega)), h.rs.grown hg (own_low h.own (by omega)), ho,
    h.bel.grown hg h.bel.size (fun k hk => Nat.le_of_not_lt fun hlt => own_low h.own (b := k) (by omega) hk.symm), hn⟩
theorem RfB.fin (h : RfB w b r cs n hs v W) (hr : r = b + 2 ∧ w.heap.size = b) (u0 u1 u2 u3 u4 : Value) :
    Blk (((((W.setCell ⟨b + 1, 0, none⟩ u0).setCell ⟨b + 1, 1, none⟩ u1).setCell ⟨b + 1, 2, none⟩ u2).setCell ⟨b + 1, 3, none⟩ u3).setCell ⟨b + 1, 4, none⟩ u4) (b + 1) 34 #[u0, u1, u2, u3, u4] ∧
    (((((W.setCell ⟨b + 1, 0, none⟩ u0).setCell ⟨b + 1, 1, none⟩ u1).setCell ⟨b + 1, 2, none⟩ u2).setCell ⟨b + 1, 3, none⟩ u3).setCell ⟨b + 1, 4, none⟩ u4).ownsRow w.heap.size 66 6 v hs.length (hRow hs) ∧
    Below w.heap.size w (((((W.setCell ⟨b + 1, 0, none⟩ u0).setCell ⟨b + 1, 1, none⟩ u1).setCell ⟨b + 1, 2, none⟩ u2).setCell ⟨b + 1, 3, none⟩ u3).setCell ⟨b + 1, 4, none⟩ u4) :=
  ⟨((((h.rs.put 0 u0).put 1 u1).put 2 u2).put 3 u3).put 4 u4,
   by rw [← h.len]; exact own_mono (own_far (own_far (own_far (own_far (own_far h.own (by simp; omega) u0) (by simp; omega) u1) (by simp; omega) u2) (by simp; omega) u3) (by simp; omega) u4) (by omega),
   ((((h.bel.setCell (by simp; omega) u0).setCell (by simp; omega) u1).setCell (by simp; omega) u2).setCell (by simp; omega) u3).setCell (by simp; omega) u4⟩
end
theorem own_chg {W W' : World} {base : Nat} {e : TypeId} {size n : Nat} {v : Value} {xs : List Value} (h : W.ownsRow base e size v n xs) {fp : Nat → Prop} (hC : Chg fp W W') (hf : ∀ i, fp i → i < base) : W'.ownsRow base e size v n xs := by
  refine ⟨h.1, h.2.imp id ?_⟩
  rintro ⟨g, cap, cur, h1, h2, h3, h4⟩
  exact ⟨g, cap, cur, h1, h2, (hC.block g (Array.getElem?_eq_some_iff.1 h3).1 (fun hi => by have := hf g hi; omega)).trans h3, h4⟩
theorem oneCell_route (k a c : Int) (A : Option Addr) (m n : Nat) (z : Int) : (#[.int .u8 k, .int .i64 a, .int .i64 c, .slice A m n, .int .i64 z] : Array Value).all (·.oneCell') = true := by simp [Value.oneCell']
theorem hops_of {w : World} {base n c : Nat} {A : Option Addr} {l : List Pe.Hop} (h : w.ownsRow base 66 6 (.slice A n c) n (hRow l)) (hn : n = l.length) : HopsAt w A n l := by
  obtain ⟨A2, c2, e, hh, _⟩ := own_hops h hn
  obtain rfl : A = A2 := by injection e
  exact hh
theorem Pe.seen_some {hs : List Pe.Hop} {c : Pe.Pair} {i : Nat} {y : Pe.Hop} (hy : hs[i]? = some y) (hq : y.frm = c) (hn : ∀ k, k < i → ∀ z, hs[k]? = some z → z.frm ≠ c) : Pe.seenAt hs c = some i := by
  obtain ⟨hl, rfl⟩ := List.getElem?_eq_some_iff.1 hy
  unfold Pe.seenAt
  rw [List.findIdx?_eq_some_iff_getElem]
  refine ⟨hl, by simpa using hq, fun j hj => ?_⟩
  have := hn j hj _ (List.getElem?_eq_getElem (by omega))
  simpa using this
theorem Pe.seen_not {hs : List Pe.Hop} {c : Pe.Pair} (hn : ∀ k, k < hs.length → ∀ z, hs[k]? = some z → z.frm ≠ c) : Pe.seenAt hs c = none := by
  rw [Pe.seenAt_none]
  intro hc
  obtain ⟨z, hz, e⟩ := List.mem_map.1 hc
  obtain ⟨k, hk⟩ := List.getElem?_of_mem hz
  exact hn k (List.getElem?_eq_some_iff.1 hk).1 z hk e

set_option maxRecDepth 1000000 in
set_option maxHeartbeats 16000000 in
theorem rFollow_calls (A : Option Addr) (n c : Nat) (l : List Pe.Ent) (cd : Pe.Pair) (s d : Int) (w : World) (h : EntsAt w A n l) (hn : n ≤ 100000) :
    Calls Tryz.prog 59 #[.slice A n c, .agg (pCells cd), .int .i64 s, .int .i64 d] w fun e w' => RouteAt w' w.heap.size (Pe.follow l cd s d) e ∧ Below w.heap.size w w' := by
  have H := Lib.hid h
  clear h
  obtain ⟨F, hF⟩ : ∃ F, F = Pe.follow l cd s d := ⟨_, rfl⟩
  rw [← hF]
  have HF := Lib.hid hF
  clear hF
  go_enter Tryz.func59, Tryz.ntmps59
  unfold pCells
  go_upto_region 1 with fail
  obtain ⟨b, hb⟩ : ∃ b, b = w.heap.size := ⟨_, rfl⟩
  obtain ⟨w1, hw1⟩ : ∃ w1, w1 = (w.alloc (.cells (pCells cd) 28)).alloc (.cells #[.int .u8 0, .int .i64 0, .int .i64 0, .slice none 0 0, .int .i64 0] 34) := ⟨_, rfl⟩
  have hB1 : Below w.heap.size w w1 := by rw [hw1]; exact ((Below.refl _ w).alloc (Nat.le_refl _) _).alloc (by simp) _
  have hc1 : Blk w1 b 28 (pCells cd) := by rw [hw1, hb]; exact (Blk.fresh w _ _).alloc _
  have hr1 : Blk w1 (b + 1) 34 #[.int .u8 0, .int .i64 0, .int .i64 0, .slice none 0 0, .int .i64 0] := by rw [hw1, hb]; have := Blk.fresh (w.alloc (.cells (pCells cd) 28)) 34 #[.int .u8 0, .int .i64 0, .int .i64 0, .slice none 0 0, .int .i64 0]; simpa using this
  have hs1 : w1.heap.size = b + 2 := by rw [hw1, hb]; simp
  unfold pCells at hw1
  rw [← hb, ← hw1]
  have H1 := Lib.hid (And.intro hB1 (And.intro hc1 (And.intro hr1 (And.intro hs1 hb))))
  have k0 : w1.cell? ⟨b, 0, none⟩ = some (.int .i64 cd.1) := hc1.cell 0
  have k1 : w1.cell? ⟨b, 1, none⟩ = some (.int .i64 cd.2) := hc1.cell 1
  clear hB1 hc1 hr1 hw1 hb hs1
  have i1 := fun w => rid_calls cd.1 w
  have i2 := fun w => rid_calls cd.2 w
  have i3 := fun w => ridOrNone_calls s w
  rw [Pe.idOr_eq] at i3
  cases hfa : Pe.followArg cd s d
  · have r0 : w1.cell? ⟨b + 1, 0, none⟩ = some (.int .u8 0) := H1.out.2.2.1.cell 0
    have r1 : w1.cell? ⟨b + 1, 1, none⟩ = some (.int .i64 0) := H1.out.2.2.1.cell 1
    have r2 : w1.cell? ⟨b + 1, 2, none⟩ = some (.int .i64 0) := H1.out.2.2.1.cell 2
    have r3 : w1.cell? ⟨b + 1, 3, none⟩ = some (.slice none 0 0) := H1.out.2.2.1.cell 3
    have r4 : w1.cell? ⟨b + 1, 4, none⟩ = some (.int .i64 0) := H1.out.2.2.1.cell 4
    have f0 := H1.out.2.2.1.frozen 0
    have f1 := H1.out.2.2.1.frozen 1
    have f2 := H1.out.2.2.1.frozen 2
    have f3 := H1.out.2.2.1.frozen 3
    have f4 := H1.out.2.2.1.frozen 4
    have hFF : F = (Pe.noRoute, 1) := by rw [HF.out, Pe.follow, hfa]; rfl
    have HFF := Lib.hid hFF
    clear hFF
    unfold Pe.followArg at hfa
    cases q1 : Pe.isId cd.1
    · rw [q1] at i1
      have HI := Lib.hid (And.intro i1 (And.intro i2 i3))
      clear i1 i2 i3 hfa q1
      go_wp2_with fail
      refine (HI.out.1 _).mono ?_
      rintro e w2 ⟨rfl, rfl⟩
      dsimp only
      go_wp2
      refine bodyPost_ret (results_row2 (P := Tryz.prog) (fn := Tryz.f59) rfl _ _ (b + 1) #[.int .u8 0, .int .i64 0, .int .i64 0, .slice none 0 0, .int .i64 0] _ rfl (((((H1.out.2.2.1.put 0 (.int .u8 0)).put 1 (.int .i64 0)).put 2 (.int .i64 0)).put 3 (.slice none 0 0)).put 4 (.int .i64 0)) Tryz.underlying34 rfl infoRoute) rfl ⟨⟨.slice none 0 0, ?_, ?_⟩, ?_⟩
      · rw [HFF.out]; rfl
      · rw [HFF.out]; exact World.ownsRow_nil _ _ _ _
      · exact ((((H1.out.1.setCell (p := ⟨b + 1, 0, none⟩) (by have := H1.out.2.2.2.2; simp; omega) _).setCell (p := ⟨b + 1, 1, none⟩) (by have := H1.out.2.2.2.2; simp; omega) _).setCell (p := ⟨b + 1, 2, none⟩) (by have := H1.out.2.2.2.2; simp; omega) _).setCell (p := ⟨b + 1, 3, none⟩) (by have := H1.out.2.2.2.2; simp; omega) _).setCell (p := ⟨b + 1, 4, none⟩) (by have := H1.out.2.2.2.2; simp; omega) _
    · rw [q1] at i1
      cases q2 : Pe.isId cd.2
      · rw [q2] at i2
        have HI := Lib.hid (And.intro i1 (And.intro i2 i3))
        clear i1 i2 i3 hfa q1 q2
        go_wp2_with fail
        refine (HI.out.1 _).mono ?_
        rintro e w2 ⟨rfl, rfl⟩
        dsimp only
        go_wp2_with fail
        refine (HI.out.2.1 _).mono ?_
        rintro e w2 ⟨rfl, rfl⟩
        dsimp only
        go_wp2
        refine bodyPost_ret (results_row2 (P := Tryz.prog) (fn := Tryz.f59) rfl _ _ (b + 1) #[.int .u8 0, .int .i64 0, .int .i64 0, .slice none 0 0, .int .i64 0] _ rfl (((((H1.out.2.2.1.put 0 (.int .u8 0)).put 1 (.int .i64 0)).put 2 (.int .i64 0)).put 3 (.slice none 0 0)).put 4 (.int .i64 0)) Tryz.underlying34 rfl infoRoute) rfl ⟨⟨.slice none 0 0, ?_, ?_⟩, ?_⟩
        · rw [HFF.out]; rfl
        · rw [HFF.out]; exact World.ownsRow_nil _ _ _ _
        · exact ((((H1.out.1.setCell (p := ⟨b + 1, 0, none⟩) (by have := H1.out.2.2.2.2; simp; omega) _).setCell (p := ⟨b + 1, 1, none⟩) (by have := H1.out.2.2.2.2; simp; omega) _).setCell (p := ⟨b + 1, 2, none⟩) (by have := H1.out.2.2.2.2; simp; omega) _).setCell (p := ⟨b + 1, 3, none⟩) (by have := H1.out.2.2.2.2; simp; omega) _).setCell (p := ⟨b + 1, 4, none⟩) (by have := H1.out.2.2.2.2; simp; omega) _
      · rw [q2] at i2
        cases q3 : Pe.idOr s
        · rw [q3] at i3
          have HI := Lib.hid (And.intro i1 (And.intro i2 i3))
          clear i1 i2 i3 hfa q1 q2 q3
          go_wp2_with fail
          refine (HI.out.1 _).mono ?_
          rintro e w2 ⟨rfl, rfl⟩
          dsimp only
          go_wp2_with fail
          refine (HI.out.2.1 _).mono ?_
          rintro e w2 ⟨rfl, rfl⟩
          dsimp only
          go_wp2_with fail
          refine (HI.out.2.2 _).mono ?_
          rintro e w2 ⟨rfl, rfl⟩
          dsimp only
          go_wp2
          refine bodyPost_ret (results_row2 (P := Tryz.prog) (fn := Tryz.f59) rfl _ _ (b + 1) #[.int .u8 0, .int .i64 0, .int .i64 0, .slice none 0 0, .int .i64 0] _ rfl (((((H1.out.2.2.1.put 0 (.int .u8 0)).put 1 (.int .i64 0)).put 2 (.int .i64 0)).put 3 (.slice none 0 0)).put 4 (.int .i64 0)) Tryz.underlying34 rfl infoRoute) rfl ⟨⟨.slice none 0 0, ?_, ?_⟩, ?_⟩
          · rw [HFF.out]; rfl
          · rw [HFF.out]; exact World.ownsRow_nil _ _ _ _
          · exact ((((H1.out.1.setCell (p := ⟨b + 1, 0, none⟩) (by have := H1.out.2.2.2.2; simp; omega) _).setCell (p := ⟨b + 1, 1, none⟩) (by have := H1.out.2.2.2.2; simp; omega) _).setCell (p := ⟨b + 1, 2, none⟩) (by have := H1.out.2.2.2.2; simp; omega) _).setCell (p := ⟨b + 1, 3, none⟩) (by have := H1.out.2.2.2.2; simp; omega) _).setCell (p := ⟨b + 1, 4, none⟩) (by have := H1.out.2.2.2.2; simp; omega) _
        · rw [q3] at i3
          rw [q1, q2, q3] at hfa
          have HI := Lib.hid (And.intro i1 (And.intro i2 i3))
          clear i1 i2 i3 q1 q2 q3
          by_cases d0 : d < 0
          · have d1 : decide (d < 0) = true := by simpa using d0
            clear hfa d0
            go_wp2_with fail
            refine (HI.out.1 _).mono ?_
            rintro e w2 ⟨rfl, rfl⟩
            dsimp only
            go_wp2_with fail
            refine (HI.out.2.1 _).mono ?_
            rintro e w2 ⟨rfl, rfl⟩
            dsimp only
            go_wp2_with fail
            refine (HI.out.2.2 _).mono ?_
            rintro e w2 ⟨rfl, rfl⟩
            dsimp only
            go_wp2
            refine bodyPost_ret (results_row2 (P := Tryz.prog) (fn := Tryz.f59) rfl _ _ (b + 1) #[.int .u8 0, .int .i64 0, .int .i64 0, .slice none 0 0, .int .i64 0] _ rfl (((((H1.out.2.2.1.put 0 (.int .u8 0)).put 1 (.int .i64 0)).put 2 (.int .i64 0)).put 3 (.slice none 0 0)).put 4 (.int .i64 0)) Tryz.underlying34 rfl infoRoute) rfl ⟨⟨.slice none 0 0, ?_, ?_⟩, ?_⟩
            · rw [HFF.out]; rfl
            · rw [HFF.out]; exact World.ownsRow_nil _ _ _ _
            · exact ((((H1.out.1.setCell (p := ⟨b + 1, 0, none⟩) (by have := H1.out.2.2.2.2; simp; omega) _).setCell (p := ⟨b + 1, 1, none⟩) (by have := H1.out.2.2.2.2; simp; omega) _).setCell (p := ⟨b + 1, 2, none⟩) (by have := H1.out.2.2.2.2; simp; omega) _).setCell (p := ⟨b + 1, 3, none⟩) (by have := H1.out.2.2.2.2; simp; omega) _).setCell (p := ⟨b + 1, 4, none⟩) (by have := H1.out.2.2.2.2; simp; omega) _
          · have d1 : decide (d < 0) = false := by simpa using d0
            have d2 : decide (100000 < d) = true := by
              simp only [Bool.true_and, Bool.and_eq_false_iff, decide_eq_false_iff_not] at hfa
              have : 100000 < d := by omega
              simpa using this
            clear hfa d0
            go_wp2_with fail
            refine (HI.out.1 _).mono ?_
            rintro e w2 ⟨rfl, rfl⟩
            dsimp only
            go_wp2_with fail
            refine (HI.out.2.1 _).mono ?_
            rintro e w2 ⟨rfl, rfl⟩
            dsimp only
            go_wp2_with fail
            refine (HI.out.2.2 _).mono ?_
            rintro e w2 ⟨rfl, rfl⟩
            dsimp only
            go_wp2
            refine bodyPost_ret (results_row2 (P := Tryz.prog) (fn := Tryz.f59) rfl _ _ (b + 1) #[.int .u8 0, .int .i64 0, .int .i64 0, .slice none 0 0, .int .i64 0] _ rfl (((((H1.out.2.2.1.put 0 (.int .u8 0)).put 1 (.int .i64 0)).put 2 (.int .i64 0)).put 3 (.slice none 0 0)).put 4 (.int .i64 0)) Tryz.underlying34 rfl infoRoute) rfl ⟨⟨.slice none 0 0, ?_, ?_⟩, ?_⟩
            · rw [HFF.out]; rfl
            · rw [HFF.out]; exact World.ownsRow_nil _ _ _ _
            · exact ((((H1.out.1.setCell (p := ⟨b + 1, 0, none⟩) (by have := H1.out.2.2.2.2; simp; omega) _).setCell (p := ⟨b + 1, 1, none⟩) (by have := H1.out.2.2.2.2; simp; omega) _).setCell (p := ⟨b + 1, 2, none⟩) (by have := H1.out.2.2.2.2; simp; omega) _).setCell (p := ⟨b + 1, 3, none⟩) (by have := H1.out.2.2.2.2; simp; omega) _).setCell (p := ⟨b + 1, 4, none⟩) (by have := H1.out.2.2.2.2; simp; omega) _
  have hF0 : F = (Pe.followFrom l s d (l.length + 2) cd [], 0) := by rw [HF.out, Pe.follow, if_pos hfa]
  have HF0 := Lib.hid hF0
  clear hF0
  unfold Pe.followArg at hfa
  simp only [Bool.and_eq_true, decide_eq_true_eq] at hfa
  rw [hfa.1.1.1.1] at i1
  rw [hfa.1.1.1.2] at i2
  rw [hfa.1.1.2] at i3
  have d1 : decide (d < 0) = false := by have := hfa.1.2; simp; omega
  have d2 : decide (100000 < d) = false := by have := hfa.2; simp; omega
  have HI := Lib.hid (And.intro i1 (And.intro i2 (And.intro i3 hfa)))
  clear i1 i2 i3 hfa
  go_wp2_with fail
  refine (HI.out.1 _).mono ?_
  rintro e w2 ⟨rfl, rfl⟩
  dsimp only
  go_wp2_with fail
  refine (HI.out.2.1 _).mono ?_
  rintro e w2 ⟨rfl, rfl⟩
  dsimp only
  go_wp2_with fail
  refine (HI.out.2.2.1 _).mono ?_
  rintro e w2 ⟨rfl, rfl⟩
  dsimp only
  go_wp2_with fail
  obtain ⟨r, hr⟩ : ∃ r, r = w1.heap.size := ⟨_, rfl⟩
  obtain ⟨w3, hw3⟩ : ∃ w3, w3 = w1.alloc (.cells #[.int .u8 0, .int .i64 cd.1, .int .i64 cd.2, .slice none 0 0, .int .i64 0] 34) := ⟨_, rfl⟩
  have hb3 : Below w1.heap.size w1 w3 := by rw [hw3]; exact (Below.refl _ w1).alloc (Nat.le_refl _) _
  have hg3 : Blk w3 r 34 #[.int .u8 0, .int .i64 cd.1, .int .i64 cd.2, .slice none 0 0, .int .i64 0] := by rw [hw3, hr]; exact Blk.fresh _ _ _
  have hrb : r = b + 2 := by rw [hr]; exact H1.out.2.2.2.1
  have HRB := Lib.hid (And.intro hrb H1.out.2.2.2.2.symm)
  rw [← hr, ← hw3]
  have H3 := Lib.hid (show RfB w b r #[.int .u8 0, .int .i64 cd.1, .int .i64 cd.2, .slice none 0 0, .int .i64 0] 0 [] (.slice none 0 0) w3 from ⟨hg3, H1.out.2.2.1.below hb3 H1.out.2.2.1.lt, World.ownsRow_nil _ _ _ _, H1.out.1.trans (hb3.mono H1.out.1.size), rfl⟩)
  clear hb3 hg3 hw3 hr hrb k0 k1 d1 d2
  go_loopg [] (l.length + 2) (fun q wr => ∃ (at_ : Pe.Pair) (hs : List Pe.Hop) (A' : Option Addr) (n' c' : Nat), Hid (q + hs.length = l.length + 2 ∧ RfB w b r #[.int .u8 0, .int .i64 at_.1, .int .i64 at_.2, .slice A' n' c', .int .i64 0] n' hs (.slice A' n' c') wr ∧ Pe.OnWay l d cd at_ hs ∧ F = (Pe.followFrom l s d q at_ hs, 0)))
  case atStart => exact ⟨cd, [], none, 0, 0, Lib.hid ⟨rfl, H3.out, Pe.OnWay.start l d cd, HF0.out⟩⟩
  case round =>
    obtain ⟨at_, hs, A', n', c', hR⟩ := hrel
    obtain ⟨g, rfl⟩ : ∃ g', gk = g' + 1 := ⟨gk - 1, by have := hR.out.1; have := hR.out.2.2.1.short; omega⟩
    have r1 : wr.cell? ⟨r, 1, none⟩ = some (.int .i64 at_.1) := hR.out.2.1.rt.cell 1
    have r2 : wr.cell? ⟨r, 2, none⟩ = some (.int .i64 at_.2) := hR.out.2.1.rt.cell 2
    go_upto_region 5 with fail
    obtain ⟨ab, hab⟩ : ∃ ab, ab = wr.heap.size := ⟨_, rfl⟩
    obtain ⟨W1, hW1⟩ : ∃ W1, W1 = wr.alloc (.cells (pCells at_) 28) := ⟨_, rfl⟩
    have hbl : Below wr.heap.size wr W1 := by rw [hW1]; exact (Below.refl _ wr).alloc (Nat.le_refl _) _
    have hgb : Blk W1 ab 28 (pCells at_) := by rw [hW1, hab]; exact Blk.fresh _ _ _
    unfold pCells at hW1
    rw [← hab, ← hW1]
    have P1 := Lib.hid (And.intro (hR.out.2.1.below hbl) hgb)
    clear hbl hgb hab hW1 r1 r2
    obtain ⟨dv, hdv⟩ : ∃ dv, dv = Pe.dead l at_.1 d := ⟨_, rfl⟩
    obtain ⟨hv, hhv⟩ : ∃ hv, hv = Pe.heir? l at_.1 d := ⟨_, rfl⟩
    obtain ⟨rv, hrv⟩ : ∃ rv, rv = Pe.refuses l at_ s d := ⟨_, rfl⟩
    obtain ⟨lv, hlv⟩ : ∃ lv, lv = Pe.lives l at_ d := ⟨_, rfl⟩
    have hhow := Pe.step_how l at_ d
    obtain ⟨⟨hp, how⟩, hst⟩ : ∃ z, z = Pe.step l at_ d := ⟨_, rfl⟩
    have c1 := fun W (hb : Below w.heap.size w W) => rDead_calls A n c l at_.1 d W (H.out.below hb)
    have c2 := fun W (hb : Below w.heap.size w W) => rHeir_calls A n c l at_.1 d W (H.out.below hb)
    have c3 := fun W (hb : Below w.heap.size w W) => rRefuses_calls A n c l at_ s d W (H.out.below hb)
    have c4 := fun W (hb : Below w.heap.size w W) => rLives_calls A n c l at_ d W (H.out.below hb) hn
    have c5 := fun W (hb : Below w.heap.size w W) => rhop_calls A n c l at_ d W (H.out.below hb)
    obtain ⟨iv, hiv⟩ : ∃ iv, iv = hv.isSome := ⟨_, rfl⟩
    obtain ⟨hx, hhx⟩ : ∃ hx, hx = hv.getD 0 := ⟨_, rfl⟩
    rw [← hdv] at c1
    rw [← hhv, ← hiv, ← hhx] at c2
    rw [← hrv] at c3
    rw [← hlv] at c4
    rw [← hst] at c5 hhow
    obtain ⟨K, hK⟩ : ∃ K, K = ((Pe.rcode how : Nat) : Int) := ⟨_, rfl⟩
    dsimp only at c5 hhow
    rw [← hK] at c5
    unfold pCells at c3 c4 c5
    unfold hCells at c5
    have HC := Lib.hid (And.intro c1 (And.intro c2 (And.intro c3 (And.intro c4 c5))))
    have HV := Lib.hid (And.intro hdv (And.intro hhv (And.intro hrv (And.intro hlv (And.intro hst (And.intro hiv (And.intro hK hhow)))))))
    clear c1 c2 c3 c4 c5 hdv hhv hrv hlv hst hiv hhx hK hhow
    have p0 : W1.cell? ⟨ab, 0, none⟩ = some (.int .i64 at_.1) := P1.out.2.cell 0
    have p1 : W1.cell? ⟨ab, 1, none⟩ = some (.int .i64 at_.2) := P1.out.2.cell 1
    go_wp2_with fail
    refine (HC.out.1 _ P1.out.1.bel).mono ?_
    rintro e W2 ⟨rfl, hb⟩
    have P2 := Lib.hid (And.intro (P1.out.1.below hb) (P1.out.2.below hb P1.out.2.lt))
    clear hb p0 p1
    have p0 : W2.cell? ⟨ab, 0, none⟩ = some (.int .i64 at_.1) := P2.out.2.cell 0
    have p1 : W2.cell? ⟨ab, 1, none⟩ = some (.int .i64 at_.2) := P2.out.2.cell 1
    dsimp only
    go_wp2_with fail
    refine (HC.out.2.1 _ P2.out.1.bel).mono ?_
    rintro e W3 ⟨rfl, hb⟩
    have P3 := Lib.hid (And.intro (P2.out.1.below hb) (P2.out.2.below hb P2.out.2.lt))
    clear hb p0 p1
    have p0 : W3.cell? ⟨ab, 0, none⟩ = some (.int .i64 at_.1) := P3.out.2.cell 0
    have p1 : W3.cell? ⟨ab, 1, none⟩ = some (.int .i64 at_.2) := P3.out.2.cell 1
    dsimp only
    go_wp2_with fail
    refine (HC.out.2.2.1 _ P3.out.1.bel).mono ?_
    rintro e W4 ⟨rfl, hb⟩
    have P4 := Lib.hid (And.intro (P3.out.1.below hb) (P3.out.2.below hb P3.out.2.lt))
    clear hb p0 p1
    have p0 : W4.cell? ⟨ab, 0, none⟩ = some (.int .i64 at_.1) := P4.out.2.cell 0
    have p1 : W4.cell? ⟨ab, 1, none⟩ = some (.int .i64 at_.2) := P4.out.2.cell 1
    dsimp only
    go_wp2_with fail
    refine (HC.out.2.2.2.1 _ P4.out.1.bel).mono ?_
    rintro e W5 ⟨rfl, hb⟩
    have P5 := Lib.hid (And.intro (P4.out.1.below hb) (P4.out.2.below hb P4.out.2.lt))
    clear hb p0 p1
    have p0 : W5.cell? ⟨ab, 0, none⟩ = some (.int .i64 at_.1) := P5.out.2.cell 0
    have p1 : W5.cell? ⟨ab, 1, none⟩ = some (.int .i64 at_.2) := P5.out.2.cell 1
    dsimp only
    go_wp2_with fail
    refine (HC.out.2.2.2.2 _ P5.out.1.bel).mono ?_
    rintro e W6 ⟨rfl, hb⟩
    have P6 := Lib.hid (And.intro (P5.out.1.below hb) (P5.out.2.below hb P5.out.2.lt))
    clear hb p0 p1
    have p0 : W6.cell? ⟨ab, 0, none⟩ = some (.int .i64 at_.1) := P6.out.2.cell 0
    have p1 : W6.cell? ⟨ab, 1, none⟩ = some (.int .i64 at_.2) := P6.out.2.cell 1
    dsimp only
    clear p0 p1
    go_upto_region 10 with fail
    obtain ⟨hb, hhb⟩ : ∃ hb, hb = W6.heap.size := ⟨_, rfl⟩
    obtain ⟨W7, hW7⟩ : ∃ W7, W7 = W6.alloc (.cells (hCells hp) 66) := ⟨_, rfl⟩
    have hbl : Below W6.heap.size W6 W7 := by rw [hW7]; exact (Below.refl _ W6).alloc (Nat.le_refl _) _
    have hgb : Blk W7 hb 66 (hCells hp) := by rw [hW7, hhb]; exact Blk.fresh _ _ _
    have hrh : r < hb := by rw [hhb]; exact P6.out.1.rt.lt
    unfold hCells at hW7
    rw [← hhb, ← hW7]
    have P7 := Lib.hid (And.intro (P6.out.1.below hbl) (And.intro hgb (And.intro hhb (And.intro hrh P6.out.1.own))))
    clear hbl hgb hhb hW7 hrh
    obtain ⟨bv, hbv⟩ : ∃ bv, bv = (dv && !iv) := ⟨_, rfl⟩
    have HBV := Lib.hid hbv
    clear hbv
    go_cut [77] from 46 to 138 (fun s77 wx => s77 = .bool bv ∧ wx = W7)
    case first =>
      cases dv
      · go_wp2
        go_meet
        exact ⟨by rw [HBV.out]; rfl, rfl⟩
      · cases iv
        all_goals
          go_wp2
          go_meet
          exact ⟨by rw [HBV.out]; rfl, rfl⟩
    case rest =>
    obtain ⟨rfl, hwc⟩ := hcut
    have hwc := hwc.symm
    subst hwc
    apply_assumption
    have hF1 := hR.out.2.2.2
    unfold Pe.followFrom at hF1
    have HF1 := Lib.hid hF1
    clear hF1
    cases bv
    case true =>
      have HF3 := Lib.hid (show F = ((⟨3, at_, hs, 0⟩ : Pe.Route), 0) by
        have h1 := HBV.out
        have h2 := (Bool.and_eq_true _ _).mp h1.symm
        rw [HF1.out, if_pos ⟨by rw [← HV.out.1]; exact h2.1, by
          rw [← HV.out.2.1]
          have h3 := h2.2
          rw [HV.out.2.2.2.2.2.1] at h3
          simpa using h3⟩])
      have f0 := P7.out.1.rt.frozen 0
      have f1 := P7.out.1.rt.frozen 1
      have f2 := P7.out.1.rt.frozen 2
      have f3 := P7.out.1.rt.frozen 3
      have f4 := P7.out.1.rt.frozen 4
      have lr : r < W7.heap.size := P7.out.1.rt.lt
      have r0 : W7.cell? ⟨r, 0, none⟩ = some (.int .u8 0) := P7.out.1.rt.cell 0
      have r1 : W7.cell? ⟨r, 1, none⟩ = some (.int .i64 at_.1) := P7.out.1.rt.cell 1
      have r2 : W7.cell? ⟨r, 2, none⟩ = some (.int .i64 at_.2) := P7.out.1.rt.cell 2
      go_upto_region 12 with fail
      obtain ⟨W8, hW8⟩ : ∃ W8, W8 = W7.setCell ⟨r, 0, none⟩ (.int .u8 3) := ⟨_, rfl⟩
      have hp8 := (P7.out.1.set HRB.out 0 (.int .u8 3))
      rw [← hW8] at hp8 ⊢
      clear hW8
      have P8 := Lib.hid (show RfB w b r #[.int .u8 3, .int .i64 at_.1, .int .i64 at_.2, .slice A' n' c', .int .i64 0] _ _ (.slice A' n' c') W8 from hp8)
      clear hp8
      have q0 : W8.cell? ⟨r, 0, none⟩ = some (.int .u8 3) := P8.out.rt.cell 0
      have q1 : W8.cell? ⟨r, 1, none⟩ = some (.int .i64 at_.1) := P8.out.rt.cell 1
      have q2 : W8.cell? ⟨r, 2, none⟩ = some (.int .i64 at_.2) := P8.out.rt.cell 2
      have q3 : W8.cell? ⟨r, 3, none⟩ = some (.slice A' n' c') := P8.out.rt.cell 3
      have q4 : W8.cell? ⟨r, 4, none⟩ = some (.int .i64 0) := P8.out.rt.cell 4
      go_wp2_with (refine wpList_store_row (op := ⟨none, .store 34 (.tmp 8) (.tmp 84), _, _, _, _⟩) rfl 34 (.tmp 8) (.tmp 84) rfl (b + 1) #[.int .u8 0, .int .i64 0, .int .i64 0, .slice none 0 0, .int .i64 0] #[.int .u8 3, .int .i64 at_.1, .int .i64 at_.2, .slice A' n' c', .int .i64 0] P8.out.rs rfl infoRoute (oneCell_route _ _ _ _ _ _ _) rfl rfl ?_; intro w9 hB9 hC9; refine Hid.out ?_)
      refine Lib.hid ?_
      iterate 10 (first | (refine wp_ret (Hid.out ?_)) | go_skip | go_guarded | go_step | go_back | skip)
      refine Lib.hid ?_
      change bodyPost Tryz.prog Tryz.f59 (fun e w' => RouteAt w' w.heap.size F e ∧ Below w.heap.size w w') Exit.ret _ _
      refine bodyPost_ret (results_row2 (P := Tryz.prog) (fn := Tryz.f59) rfl _ _ (b + 1) #[.int .u8 3, .int .i64 at_.1, .int .i64 at_.2, .slice A' n' c', .int .i64 0] _ rfl hB9 Tryz.underlying34 rfl infoRoute) rfl ⟨⟨.slice A' n' c', ?_, ?_⟩, P8.out.bel.trans (hC9.below (fun i hi => by have := HRB.out; omega) P8.out.bel.size)⟩
      · rw [HF3.out]; rfl
      · rw [HF3.out]
        show w9.ownsRow w.heap.size 66 6 _ (List.length _) _
        rw [← P8.out.len]
        exact own_mono (own_chg P8.out.own hC9 (fun i hi => by have := HRB.out; omega)) (by have := HRB.out; omega)
    have HNB := Lib.hid (show ¬ (Pe.dead l at_.1 d = true ∧ Pe.heir? l at_.1 d = none) by
      rintro ⟨h2, h3⟩
      have h1 := HBV.out
      rw [HV.out.2.2.2.2.2.1, HV.out.1, HV.out.2.1, h2, h3] at h1
      cases h1)
    cases rv
    case true =>
      have HF3 := Lib.hid (show F = ((⟨2, at_, hs, 0⟩ : Pe.Route), 0) by rw [HF1.out, if_neg HNB.out, if_pos HV.out.2.2.1.symm])
      have f0 := P7.out.1.rt.frozen 0
      have f1 := P7.out.1.rt.frozen 1
      have f2 := P7.out.1.rt.frozen 2
      have f3 := P7.out.1.rt.frozen 3
      have f4 := P7.out.1.rt.frozen 4
      have lr : r < W7.heap.size := P7.out.1.rt.lt
      have r0 : W7.cell? ⟨r, 0, none⟩ = some (.int .u8 0) := P7.out.1.rt.cell 0
      have r1 : W7.cell? ⟨r, 1, none⟩ = some (.int .i64 at_.1) := P7.out.1.rt.cell 1
      have r2 : W7.cell? ⟨r, 2, none⟩ = some (.int .i64 at_.2) := P7.out.1.rt.cell 2
      go_upto_region 15 with fail
      obtain ⟨W8, hW8⟩ : ∃ W8, W8 = W7.setCell ⟨r, 0, none⟩ (.int .u8 2) := ⟨_, rfl⟩
      have hp8 := (P7.out.1.set HRB.out 0 (.int .u8 2))
      rw [← hW8] at hp8 ⊢
      clear hW8
      have P8 := Lib.hid (show RfB w b r #[.int .u8 2, .int .i64 at_.1, .int .i64 at_.2, .slice A' n' c', .int .i64 0] _ _ (.slice A' n' c') W8 from hp8)
      clear hp8
      have q0 : W8.cell? ⟨r, 0, none⟩ = some (.int .u8 2) := P8.out.rt.cell 0
      have q1 : W8.cell? ⟨r, 1, none⟩ = some (.int .i64 at_.1) := P8.out.rt.cell 1
      have q2 : W8.cell? ⟨r, 2, none⟩ = some (.int .i64 at_.2) := P8.out.rt.cell 2
      have q3 : W8.cell? ⟨r, 3, none⟩ = some (.slice A' n' c') := P8.out.rt.cell 3
      have q4 : W8.cell? ⟨r, 4, none⟩ = some (.int .i64 0) := P8.out.rt.cell 4
      go_wp2_with (refine wpList_store_row (op := ⟨none, .store 34 (.tmp 8) (.tmp 88), _, _, _, _⟩) rfl 34 (.tmp 8) (.tmp 88) rfl (b + 1) #[.int .u8 0, .int .i64 0, .int .i64 0, .slice none 0 0, .int .i64 0] #[.int .u8 2, .int .i64 at_.1, .int .i64 at_.2, .slice A' n' c', .int .i64 0] P8.out.rs rfl infoRoute (oneCell_route _ _ _ _ _ _ _) rfl rfl ?_; intro w9 hB9 hC9; refine Hid.out ?_)
      refine Lib.hid ?_
      iterate 10 (first | (refine wp_ret (Hid.out ?_)) | go_skip | go_guarded | go_step | go_back | skip)
      refine Lib.hid ?_
      change bodyPost Tryz.prog Tryz.f59 (fun e w' => RouteAt w' w.heap.size F e ∧ Below w.heap.size w w') Exit.ret _ _
      refine bodyPost_ret (results_row2 (P := Tryz.prog) (fn := Tryz.f59) rfl _ _ (b + 1) #[.int .u8 2, .int .i64 at_.1, .int .i64 at_.2, .slice A' n' c', .int .i64 0] _ rfl hB9 Tryz.underlying34 rfl infoRoute) rfl ⟨⟨.slice A' n' c', ?_, ?_⟩, P8.out.bel.trans (hC9.below (fun i hi => by have := HRB.out; omega) P8.out.bel.size)⟩
      · rw [HF3.out]; rfl
      · rw [HF3.out]
        show w9.ownsRow w.heap.size 66 6 _ (List.length _) _
        rw [← P8.out.len]
        exact own_mono (own_chg P8.out.own hC9 (fun i hi => by have := HRB.out; omega)) (by have := HRB.out; omega)
    have HF2 := Lib.hid (show F = (if how = 1 then (⟨5, hp.to, hs, 0⟩ : Pe.Route) else if how = 2 then (match Pe.seenAt (hs ++ [hp]) hp.to with | some i => ⟨6, hp.to, hs ++ [hp], i⟩ | none => Pe.followFrom l s d g hp.to (hs ++ [hp])) else ⟨if lv = true then 1 else 4, at_, hs, 0⟩, 0) by
      rw [HF1.out, if_neg HNB.out, if_neg (by rw [← HV.out.2.2.1]; simp), ← HV.out.2.2.2.2.1, ← HV.out.2.2.2.1]; rfl)
    have hhow := HV.out.2.2.2.2.2.2.2
    have hK := HV.out.2.2.2.2.2.2.1
    have k0 : W7.cell? ⟨hb, 0, none⟩ = some (.int .u8 (hp.kind : Int)) := P7.out.2.1.cell 0
    have k1 : W7.cell? ⟨hb, 1, none⟩ = some (.int .i64 hp.frm.1) := P7.out.2.1.cell 1
    have k2 : W7.cell? ⟨hb, 2, none⟩ = some (.int .i64 hp.frm.2) := P7.out.2.1.cell 2
    have k3 : W7.cell? ⟨hb, 3, none⟩ = some (.int .i64 hp.to.1) := P7.out.2.1.cell 3
    have k4 : W7.cell? ⟨hb, 4, none⟩ = some (.int .i64 hp.to.2) := P7.out.2.1.cell 4
    have k5 : W7.cell? ⟨hb, 5, none⟩ = some (.int .i64 hp.order) := P7.out.2.1.cell 5
    have hrh : r < hb := P7.out.2.2.2.1
    have f0 := P7.out.1.rt.frozen 0
    have f1 := P7.out.1.rt.frozen 1
    have f2 := P7.out.1.rt.frozen 2
    have f3 := P7.out.1.rt.frozen 3
    have f4 := P7.out.1.rt.frozen 4
    have lr : r < W7.heap.size := P7.out.1.rt.lt
    have r0 : W7.cell? ⟨r, 0, none⟩ = some (.int .u8 0) := P7.out.1.rt.cell 0
    have r1 : W7.cell? ⟨r, 1, none⟩ = some (.int .i64 at_.1) := P7.out.1.rt.cell 1
    have r2 : W7.cell? ⟨r, 2, none⟩ = some (.int .i64 at_.2) := P7.out.1.rt.cell 2
    rcases hhow with h0 | h0 | h0
    · obtain rfl : K = 0 := by rw [hK, h0]; rfl
      have HF4 := Lib.hid (show F = ((⟨if lv = true then 1 else 4, at_, hs, 0⟩ : Pe.Route), 0) by rw [HF2.out, if_neg (by omega), if_neg (by omega)])
      clear hK h0
      cases lv
      · have HF3 := Lib.hid (show F = ((⟨4, at_, hs, 0⟩ : Pe.Route), 0) from HF4.out)
        go_upto_region 25 with fail
        obtain ⟨W8, hW8⟩ : ∃ W8, W8 = W7.setCell ⟨r, 0, none⟩ (.int .u8 4) := ⟨_, rfl⟩
        have hp8 := (P7.out.1.set HRB.out 0 (.int .u8 4))
        rw [← hW8] at hp8 ⊢
        clear hW8
        have P8 := Lib.hid (show RfB w b r #[.int .u8 4, .int .i64 at_.1, .int .i64 at_.2, .slice A' n' c', .int .i64 0] _ _ (.slice A' n' c') W8 from hp8)
        clear hp8
        have q0 : W8.cell? ⟨r, 0, none⟩ = some (.int .u8 4) := P8.out.rt.cell 0
        have q1 : W8.cell? ⟨r, 1, none⟩ = some (.int .i64 at_.1) := P8.out.rt.cell 1
        have q2 : W8.cell? ⟨r, 2, none⟩ = some (.int .i64 at_.2) := P8.out.rt.cell 2
        have q3 : W8.cell? ⟨r, 3, none⟩ = some (.slice A' n' c') := P8.out.rt.cell 3
        have q4 : W8.cell? ⟨r, 4, none⟩ = some (.int .i64 0) := P8.out.rt.cell 4
        go_wp2_with (refine wpList_store_row (op := ⟨none, .store 34 (.tmp 8) (.tmp 109), _, _, _, _⟩) rfl 34 (.tmp 8) (.tmp 109) rfl (b + 1) #[.int .u8 0, .int .i64 0, .int .i64 0, .slice none 0 0, .int .i64 0] #[.int .u8 4, .int .i64 at_.1, .int .i64 at_.2, .slice A' n' c', .int .i64 0] P8.out.rs rfl infoRoute (oneCell_route _ _ _ _ _ _ _) rfl rfl ?_; intro w9 hB9 hC9; refine Hid.out ?_)
        refine Lib.hid ?_
        iterate 10 (first | (refine wp_ret (Hid.out ?_)) | go_skip | go_guarded | go_step | go_back | skip)
        refine Lib.hid ?_
        change bodyPost Tryz.prog Tryz.f59 (fun e w' => RouteAt w' w.heap.size F e ∧ Below w.heap.size w w') Exit.ret _ _
        refine bodyPost_ret (results_row2 (P := Tryz.prog) (fn := Tryz.f59) rfl _ _ (b + 1) #[.int .u8 4, .int .i64 at_.1, .int .i64 at_.2, .slice A' n' c', .int .i64 0] _ rfl hB9 Tryz.underlying34 rfl infoRoute) rfl ⟨⟨.slice A' n' c', ?_, ?_⟩, P8.out.bel.trans (hC9.below (fun i hi => by have := HRB.out; omega) P8.out.bel.size)⟩
        · rw [HF3.out]; rfl
        · rw [HF3.out]
          show w9.ownsRow w.heap.size 66 6 _ (List.length _) _
          rw [← P8.out.len]
          exact own_mono (own_chg P8.out.own hC9 (fun i hi => by have := HRB.out; omega)) (by have := HRB.out; omega)
      · have HF3 := Lib.hid (show F = ((⟨1, at_, hs, 0⟩ : Pe.Route), 0) from HF4.out)
        go_upto_region 22 with fail
        obtain ⟨W8, hW8⟩ : ∃ W8, W8 = W7.setCell ⟨r, 0, none⟩ (.int .u8 1) := ⟨_, rfl⟩
        have hp8 := (P7.out.1.set HRB.out 0 (.int .u8 1))
        rw [← hW8] at hp8 ⊢
        clear hW8
        have P8 := Lib.hid (show RfB w b r #[.int .u8 1, .int .i64 at_.1, .int .i64 at_.2, .slice A' n' c', .int .i64 0] _ _ (.slice A' n' c') W8 from hp8)
        clear hp8
        have q0 : W8.cell? ⟨r, 0, none⟩ = some (.int .u8 1) := P8.out.rt.cell 0
        have q1 : W8.cell? ⟨r, 1, none⟩ = some (.int .i64 at_.1) := P8.out.rt.cell 1
        have q2 : W8.cell? ⟨r, 2, none⟩ = some (.int .i64 at_.2) := P8.out.rt.cell 2
        have q3 : W8.cell? ⟨r, 3, none⟩ = some (.slice A' n' c') := P8.out.rt.cell 3
        have q4 : W8.cell? ⟨r, 4, none⟩ = some (.int .i64 0) := P8.out.rt.cell 4
        go_wp2_with (refine wpList_store_row (op := ⟨none, .store 34 (.tmp 8) (.tmp 104), _, _, _, _⟩) rfl 34 (.tmp 8) (.tmp 104) rfl (b + 1) #[.int .u8 0, .int .i64 0, .int .i64 0, .slice none 0 0, .int .i64 0] #[.int .u8 1, .int .i64 at_.1, .int .i64 at_.2, .slice A' n' c', .int .i64 0] P8.out.rs rfl infoRoute (oneCell_route _ _ _ _ _ _ _) rfl rfl ?_; intro w9 hB9 hC9; refine Hid.out ?_)
        refine Lib.hid ?_
        iterate 10 (first | (refine wp_ret (Hid.out ?_)) | go_skip | go_guarded | go_step | go_back | skip)
        refine Lib.hid ?_
        change bodyPost Tryz.prog Tryz.f59 (fun e w' => RouteAt w' w.heap.size F e ∧ Below w.heap.size w w') Exit.ret _ _
        refine bodyPost_ret (results_row2 (P := Tryz.prog) (fn := Tryz.f59) rfl _ _ (b + 1) #[.int .u8 1, .int .i64 at_.1, .int .i64 at_.2, .slice A' n' c', .int .i64 0] _ rfl hB9 Tryz.underlying34 rfl infoRoute) rfl ⟨⟨.slice A' n' c', ?_, ?_⟩, P8.out.bel.trans (hC9.below (fun i hi => by have := HRB.out; omega) P8.out.bel.size)⟩
        · rw [HF3.out]; rfl
        · rw [HF3.out]
          show w9.ownsRow w.heap.size 66 6 _ (List.length _) _
          rw [← P8.out.len]
          exact own_mono (own_chg P8.out.own hC9 (fun i hi => by have := HRB.out; omega)) (by have := HRB.out; omega)
    · obtain rfl : K = 2 := by rw [hK, h0]; rfl
      have HF3 := Lib.hid (show F = ((⟨5, hp.to, hs, 0⟩ : Pe.Route), 0) by rw [HF2.out, if_pos h0])
      clear hK h0
      go_upto_region 19 with fail
      obtain ⟨W8, hW8⟩ : ∃ W8, W8 = ((W7.setCell ⟨r, 0, none⟩ (.int .u8 5)).setCell ⟨r, 1, none⟩ (.int .i64 hp.to.1)).setCell ⟨r, 2, none⟩ (.int .i64 hp.to.2) := ⟨_, rfl⟩
      have hp8 := (((P7.out.1.set HRB.out 0 (.int .u8 5)).set HRB.out 1 (.int .i64 hp.to.1)).set HRB.out 2 (.int .i64 hp.to.2))
      rw [← hW8] at hp8 ⊢
      clear hW8
      have P8 := Lib.hid (show RfB w b r #[.int .u8 5, .int .i64 hp.to.1, .int .i64 hp.to.2, .slice A' n' c', .int .i64 0] _ _ (.slice A' n' c') W8 from hp8)
      clear hp8
      have q0 : W8.cell? ⟨r, 0, none⟩ = some (.int .u8 5) := P8.out.rt.cell 0
      have q1 : W8.cell? ⟨r, 1, none⟩ = some (.int .i64 hp.to.1) := P8.out.rt.cell 1
      have q2 : W8.cell? ⟨r, 2, none⟩ = some (.int .i64 hp.to.2) := P8.out.rt.cell 2
      have q3 : W8.cell? ⟨r, 3, none⟩ = some (.slice A' n' c') := P8.out.rt.cell 3
      have q4 : W8.cell? ⟨r, 4, none⟩ = some (.int .i64 0) := P8.out.rt.cell 4
      go_wp2_with (refine wpList_store_row (op := ⟨none, .store 34 (.tmp 8) (.tmp 96), _, _, _, _⟩) rfl 34 (.tmp 8) (.tmp 96) rfl (b + 1) #[.int .u8 0, .int .i64 0, .int .i64 0, .slice none 0 0, .int .i64 0] #[.int .u8 5, .int .i64 hp.to.1, .int .i64 hp.to.2, .slice A' n' c', .int .i64 0] P8.out.rs rfl infoRoute (oneCell_route _ _ _ _ _ _ _) rfl rfl ?_; intro w9 hB9 hC9; refine Hid.out ?_)
      refine Lib.hid ?_
      iterate 10 (first | (refine wp_ret (Hid.out ?_)) | go_skip | go_guarded | go_step | go_back | skip)
      refine Lib.hid ?_
      change bodyPost Tryz.prog Tryz.f59 (fun e w' => RouteAt w' w.heap.size F e ∧ Below w.heap.size w w') Exit.ret _ _
      refine bodyPost_ret (results_row2 (P := Tryz.prog) (fn := Tryz.f59) rfl _ _ (b + 1) #[.int .u8 5, .int .i64 hp.to.1, .int .i64 hp.to.2, .slice A' n' c', .int .i64 0] _ rfl hB9 Tryz.underlying34 rfl infoRoute) rfl ⟨⟨.slice A' n' c', ?_, ?_⟩, P8.out.bel.trans (hC9.below (fun i hi => by have := HRB.out; omega) P8.out.bel.size)⟩
      · rw [HF3.out]; rfl
      · rw [HF3.out]
        show w9.ownsRow w.heap.size 66 6 _ (List.length _) _
        rw [← P8.out.len]
        exact own_mono (own_chg P8.out.own hC9 (fun i hi => by have := HRB.out; omega)) (by have := HRB.out; omega)
    · obtain rfl : K = 1 := by rw [hK, h0]; rfl
      have h2 : (Pe.step l at_ d).2 = 2 := by rw [← HV.out.2.2.2.2.1]; exact h0
      have HF4 := Lib.hid (show F = ((match Pe.seenAt (hs ++ [hp]) hp.to with | some i => ⟨6, hp.to, hs ++ [hp], i⟩ | none => Pe.followFrom l s d g hp.to (hs ++ [hp]) : Pe.Route), 0) by rw [HF2.out, if_neg (by omega), if_pos h0])
      have HW2 := Lib.hid h2
      clear hK h0 h2
      obtain ⟨i0, hi0, hz0, hz1, hz2⟩ := info_parts infoHopN
      have HI0 := Lib.hid (And.intro hi0 (And.intro hz0 (And.intro hz1 hz2)))
      clear hi0 hz0 hz1 hz2
      have r3 : W7.cell? ⟨r, 3, none⟩ = some (.slice A' n' c') := P7.out.1.rt.cell 3
      have hmax : n' ≤ 100000 := by have := P7.out.1.len; have := hR.out.2.2.1.short; have := H.out.len; omega
      have hsz7 : r + 1 ≤ W7.heap.size := P7.out.1.rt.lt
      go_wp2_with (at_builtin; refine wpList_append_lies _ rfl _ _ 32 rfl (r + 1) 66 i0 _ 6 48 Tryz.underlying32 HI0.out.1 HI0.out.2.1 HI0.out.2.2.1 HI0.out.2.2.2 (by rfl) (by decide) (.slice A' n' c') n' (hRow hs) rfl (own_below P7.out.1.own ((Below.refl _ W7).alloc (Nat.le_refl _) _)) ⟨W7.heap.size, 0, none⟩ 1 1 (hCells hp).toList rfl rfl (World.news_of_block (cs := hCells hp) (t := 66) (fr := (0, 0)) (heap_alloc_new W7 _)) ?o1 (by decide) ?o2 ?o3 ?o4 _ rfl ?_)
      case o1 => simp [hCells, Value.oneCell']
      case o2 => simp only [maxLen]; omega
      case o3 => omega
      case o4 => omega
      intro gh ch W8 hown8 hgr8 _ hlt8
      have hB8 : RfB w b r #[.int .u8 0, .int .i64 at_.1, .int .i64 at_.2, .slice A' n' c', .int .i64 0] (n' + 1) (hs ++ [hp]) (.slice (some ⟨gh, 0, none⟩) (n' + 1) ch) W8 := (P7.out.1.below ((Below.refl _ W7).alloc (Nat.le_refl _) _)).app HRB.out hgr8 (by rw [hRow_snoc]; exact hown8) (by simp; exact P7.out.1.len)
      have hG8 : Blk W8 hb 66 (hCells hp) := (P7.out.2.1.alloc _).grown hgr8 (fun e => by have := (P7.out.2.2.2.2.lt hb e.symm).2; have := P7.out.2.2.1; omega)
      obtain ⟨hs2, hhs2⟩ : ∃ hs2, hs2 = hs ++ [hp] := ⟨_, rfl⟩
      obtain ⟨n2, hn2⟩ : ∃ n2, n2 = n' + 1 := ⟨_, rfl⟩
      obtain ⟨A2, hA2⟩ : ∃ A2 : Option Addr, A2 = some ⟨gh, 0, none⟩ := ⟨_, rfl⟩
      rw [← hhs2, ← hn2, ← hA2] at hB8
      rw [← hn2, ← hA2]
      have hmx : n2 ≤ 100001 := by omega
      have HE := Lib.hid (And.intro hhs2 hn2)
      have P8 := Lib.hid (And.intro hB8 hG8)
      clear hhs2 hn2 hA2 hown8 hgr8 hB8 hG8 hlt8 k0 k1 k2 k3 k4 k5 r0 r1 r2 r3 f0 f1 f2 f3 f4 lr hmax hsz7
      have f0 := P8.out.1.rt.frozen 0
      have f1 := P8.out.1.rt.frozen 1
      have f2 := P8.out.1.rt.frozen 2
      have f3 := P8.out.1.rt.frozen 3
      have f4 := P8.out.1.rt.frozen 4
      have lr : r < W8.heap.size := P8.out.1.rt.lt
      have r0 : W8.cell? ⟨r, 0, none⟩ = some (.int .u8 0) := P8.out.1.rt.cell 0
      have r1 : W8.cell? ⟨r, 1, none⟩ = some (.int .i64 at_.1) := P8.out.1.rt.cell 1
      have r2 : W8.cell? ⟨r, 2, none⟩ = some (.int .i64 at_.2) := P8.out.1.rt.cell 2
      have r3 : W8.cell? ⟨r, 3, none⟩ = some (.slice A' n' c') := P8.out.1.rt.cell 3
      have k3 : W8.cell? ⟨hb, 3, none⟩ = some (.int .i64 hp.to.1) := P8.out.2.cell 3
      have k4 : W8.cell? ⟨hb, 4, none⟩ = some (.int .i64 hp.to.2) := P8.out.2.cell 4
      go_upto_region 28 with fail
      obtain ⟨W9, hW9⟩ : ∃ W9, W9 = ((W8.setCell ⟨r, 3, none⟩ (.slice A2 n2 ch)).setCell ⟨r, 1, none⟩ (.int .i64 hp.to.1)).setCell ⟨r, 2, none⟩ (.int .i64 hp.to.2) := ⟨_, rfl⟩
      have hb9 := ((P8.out.1.set HRB.out 3 (.slice A2 n2 ch)).set HRB.out 1 (.int .i64 hp.to.1)).set HRB.out 2 (.int .i64 hp.to.2)
      have hg9 := ((P8.out.2.far (p := ⟨r, 3, none⟩) (by simp; omega) (.slice A2 n2 ch)).far (p := ⟨r, 1, none⟩) (by simp; omega) (.int .i64 hp.to.1)).far (p := ⟨r, 2, none⟩) (by simp; omega) (.int .i64 hp.to.2)
      rw [← hW9] at hb9 hg9 ⊢
      have P9 := Lib.hid (And.intro (show RfB w b r #[.int .u8 0, .int .i64 hp.to.1, .int .i64 hp.to.2, .slice A2 n2 ch, .int .i64 0] n2 hs2 (.slice A2 n2 ch) W9 from hb9) hg9)
      clear hb9 hg9 hW9 r0 r1 r2 r3 k3 k4 f0 f1 f2 f3 f4 lr
      go_wp2_with fail
      go_loopg [19] n2 (fun q s19 wr => ∃ i : Nat, s19 = .int .i64 (i : Int) ∧ i + q = n2 ∧ Hid (RfB w b r #[.int .u8 0, .int .i64 hp.to.1, .int .i64 hp.to.2, .slice A2 n2 ch, .int .i64 0] n2 hs2 (.slice A2 n2 ch) wr ∧ Blk wr hb 66 (hCells hp) ∧ ∀ k, k < i → ∀ z, hs2[k]? = some z → z.frm ≠ hp.to))
      case atStart => exact ⟨0, by go_num, by omega, Lib.hid ⟨P9.out.1, P9.out.2, fun k hk => by omega⟩⟩
      case round =>
        obtain ⟨i, rfl, hi, hQ⟩ := hrel
        have r3 : wr.cell? ⟨r, 3, none⟩ = some (.slice A2 n2 ch) := hQ.out.1.rt.cell 3
        by_cases hgo : i < n2
        case neg =>
          have hd1 : decide ((i : Int) < (n2 : Int)) = false := by simp; omega
          go_wp2
          go_roundg g
          case measure => omega
          case rel =>
            have hnone : Pe.seenAt hs2 hp.to = none := Pe.seen_not (fun k hk => hQ.out.2.2 k (by have := hQ.out.1.len; omega))
            have hst := HV.out.2.2.2.2.1
            have hway := hR.out.2.2.1.on HW2.out (by rw [← hst]; rw [← HE.out.1]; exact hnone)
            rw [← hst, ← HE.out.1] at hway
            refine ⟨hp.to, hs2, A2, n2, ch, Lib.hid ⟨?_, hQ.out.1, hway, ?_⟩⟩
            · have h1 := hR.out.1
              rw [HE.out.1]
              simp
              omega
            · rw [HF4.out, ← HE.out.1, hnone]
        have hd1 : decide ((i : Int) < (n2 : Int)) = true := by simp; omega
        obtain ⟨y, ad, hy, rfl, hcy⟩ := (hops_of hQ.out.1.own hQ.out.1.len).one hgo
        have p1 : wr.cell? ⟨(ad.add (i * 6)).block, (ad.add (i * 6)).off + 1, none⟩ = some (.int .i64 y.frm.1) := hcy 1 _ rfl
        have p2 : wr.cell? ⟨(ad.add (i * 6)).block, (ad.add (i * 6)).off + 2, none⟩ = some (.int .i64 y.frm.2) := hcy 2 _ rfl
        have k3 : wr.cell? ⟨hb, 3, none⟩ = some (.int .i64 hp.to.1) := hQ.out.2.1.cell 3
        have k4 : wr.cell? ⟨hb, 4, none⟩ = some (.int .i64 hp.to.2) := hQ.out.2.1.cell 4
        obtain ⟨E, hE⟩ : ∃ E, E = decide (y.frm = hp.to) := ⟨_, rfl⟩
        have heq : ∀ w0, (binOp .eql 28 (.agg #[.int .i64 y.frm.1, .int .i64 y.frm.2]) (.agg #[.int .i64 hp.to.1, .int .i64 hp.to.2])).run Tryz.prog w0 = .ok (.bool E) w0 := fun w0 => by rw [hE]; exact eql_pair y.frm hp.to w0
        have HY := Lib.hid (And.intro hy hE)
        clear hy hE hcy
        cases E
        · go_upto_region 31 with fail
          go_quiet (fail)
          go_wp2
          go_roundg (gk - 1)
          case measure => omega
          case rel =>
            refine ⟨i + 1, by go_num, by omega, Lib.hid ⟨hQ.out.1.below (below_drewN _ _), hQ.out.2.1.below (below_drewN _ _) hQ.out.2.1.lt, fun k hk z hz => ?_⟩⟩
            by_cases hki : k = i
            · subst hki
              rw [HY.out.1] at hz
              injection hz with hz
              rw [← hz]
              exact of_decide_eq_false HY.out.2.symm
            · exact hQ.out.2.2 k (by omega) z hz
        · have hsome : Pe.seenAt hs2 hp.to = some i := Pe.seen_some HY.out.1 (of_decide_eq_true HY.out.2.symm) hQ.out.2.2
          have HF3 := Lib.hid (show F = ((⟨6, hp.to, hs2, i⟩ : Pe.Route), 0) by rw [HF4.out, ← HE.out.1, hsome])
          clear hsome
          have f0 := hQ.out.1.rt.frozen 0
          have f4 := hQ.out.1.rt.frozen 4
          have lr : r < wr.heap.size := hQ.out.1.rt.lt
          have r0 : wr.cell? ⟨r, 0, none⟩ = some (.int .u8 0) := hQ.out.1.rt.cell 0
          have r4 : wr.cell? ⟨r, 4, none⟩ = some (.int .i64 0) := hQ.out.1.rt.cell 4
          go_upto_region 31 with fail
          go_quiet (fail)
          go_upto_region 34 with fail
          obtain ⟨W8, hW8⟩ : ∃ W8, W8 = ((wr.drewN nq).setCell ⟨r, 0, none⟩ (.int .u8 6)).setCell ⟨r, 4, none⟩ (.int .i64 (i : Int)) := ⟨_, rfl⟩
          have hp8 := (((hQ.out.1.below (below_drewN wr nq)).set HRB.out 0 (.int .u8 6)).set HRB.out 4 (.int .i64 (i : Int)))
          rw [← hW8] at hp8 ⊢
          clear hW8
          have P8 := Lib.hid (show RfB w b r #[.int .u8 6, .int .i64 hp.to.1, .int .i64 hp.to.2, .slice (some ad) n2 ch, .int .i64 (i : Int)] _ _ (.slice (some ad) n2 ch) W8 from hp8)
          clear hp8
          have q0 : W8.cell? ⟨r, 0, none⟩ = some (.int .u8 6) := P8.out.rt.cell 0
          have q1 : W8.cell? ⟨r, 1, none⟩ = some (.int .i64 hp.to.1) := P8.out.rt.cell 1
          have q2 : W8.cell? ⟨r, 2, none⟩ = some (.int .i64 hp.to.2) := P8.out.rt.cell 2
          have q3 : W8.cell? ⟨r, 3, none⟩ = some (.slice (some ad) n2 ch) := P8.out.rt.cell 3
          have q4 : W8.cell? ⟨r, 4, none⟩ = some (.int .i64 (i : Int)) := P8.out.rt.cell 4
          go_wp2_with (refine wpList_store_row (op := ⟨none, .store 34 (.tmp 8) (.tmp 138), _, _, _, _⟩) rfl 34 (.tmp 8) (.tmp 138) rfl (b + 1) #[.int .u8 0, .int .i64 0, .int .i64 0, .slice none 0 0, .int .i64 0] #[.int .u8 6, .int .i64 hp.to.1, .int .i64 hp.to.2, .slice (some ad) n2 ch, .int .i64 (i : Int)] P8.out.rs rfl infoRoute (oneCell_route _ _ _ _ _ _ _) rfl rfl ?_; intro w9 hB9 hC9; refine Hid.out ?_)
          refine Lib.hid ?_
          iterate 10 (first | (refine wp_ret (Hid.out ?_)) | go_skip | go_guarded | go_step | go_back | skip)
          refine Lib.hid ?_
          change bodyPost Tryz.prog Tryz.f59 (fun e w' => RouteAt w' w.heap.size F e ∧ Below w.heap.size w w') Exit.ret _ _
          refine bodyPost_ret (results_row2 (P := Tryz.prog) (fn := Tryz.f59) rfl _ _ (b + 1) #[.int .u8 6, .int .i64 hp.to.1, .int .i64 hp.to.2, .slice (some ad) n2 ch, .int .i64 (i : Int)] _ rfl hB9 Tryz.underlying34 rfl infoRoute) rfl ⟨⟨.slice (some ad) n2 ch, ?_, ?_⟩, P8.out.bel.trans (hC9.below (fun i hi => by have := HRB.out; omega) P8.out.bel.size)⟩
          · rw [HF3.out]; rfl
          · rw [HF3.out]
            show w9.ownsRow w.heap.size 66 6 _ (List.length _) _
            rw [← P8.out.len]
            exact own_mono (own_chg P8.out.own hC9 (fun i hi => by have := HRB.out; omega)) (by have := HRB.out; omega)

end Go.Proofs.YtnphlekailodkaaGreatDoor
