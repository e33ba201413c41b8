/-
  Refuses of the directory.
-/
import Derived.Test.YtnphlekailodkaaGreatDoorRc
namespace Go.Proofs.YtnphlekailodkaaGreatDoor
open Go.RowKit Go.Shelf

attribute [local go_sem] Oper.semAt_some
/-- A refusal speaks of a pair and a sender. -/
def refB (c : Pe.Pair) (s : Int) (x : Pe.Ent) : Bool := x.person == c.1 && (x.place == 0 || x.place == c.2) && (x.other == 0 || x.other == s)

set_option maxRecDepth 1000000 in
set_option maxHeartbeats 8000000 in
theorem Refuses_calls (A : Option Addr) (n c : Nat) (l : List Pe.Ent) (cd : Pe.Pair) (s d : Int) (w : World) (h : EntsAt w A n l) :
    Calls Tryz.prog 56 #[.slice A n c, .agg (pCells cd), .int .i64 s, .int .i64 d] w fun e w' => e = .returned (.bool (Pe.refuses l cd s d)) ∧ Below w.heap.size w w' := by
  have H := Lib.hid h
  clear h
  refine (callsIn_wide (n := 5)).1 ?_
  refine callsIn_of_wp_marks Tryz.func56 rfl trivial ?_ rfl
  simp only [Tryz.ntmps56, List.size_toArray, List.length_cons, List.length_nil, Nat.reduceAdd, Nat.reduceSub, Array.replicate_succ, Array.replicate_zero, List.push_toArray, List.append_toArray, List.nil_append, List.cons_append]
  unfold pCells
  gi_wp2_with fail
  obtain ⟨b, hb⟩ : ∃ b, b = w.heap.size := ⟨_, rfl⟩
  obtain ⟨w1, hw1⟩ : ∃ w1, w1 = ((w.alloc (.cells (pCells cd) 28)).alloc (.cells #[.int .i64 s] 3)).alloc (.cells #[.bool false] 4) := ⟨_, rfl⟩
  have hB1 : Below w.heap.size w w1 := by rw [hw1]; exact (((Below.refl _ w).alloc (Nat.le_refl _) _).alloc (by simp) _).alloc (by simp; omega) _
  have hc1 : Blk w1 b 28 (pCells cd) := by rw [hw1, hb]; exact ((Blk.fresh w _ _).alloc _).alloc _
  have hs1 : Blk w1 (b + 1) 3 #[.int .i64 s] := by rw [hw1, hb]; have := (Blk.fresh (w.alloc (.cells (pCells cd) 28)) 3 #[.int .i64 s]).alloc (.cells #[.bool false] 4); simpa using this
  have hr1 : Blk w1 (b + 1 + 1) 4 #[.bool false] := by rw [hw1, hb]; have := Blk.fresh ((w.alloc (.cells (pCells cd) 28)).alloc (.cells #[.int .i64 s] 3)) 4 #[.bool false]; simpa using this
  unfold pCells at hw1
  rw [← hb, ← hw1]
  have H1 := Lib.hid (And.intro hB1 (And.intro hc1 (And.intro hs1 (And.intro hr1 hb))))
  clear hB1 hc1 hs1 hr1 hw1 hb
  refine ⟨trivial, (callsIn_wide.2 (Dead_calls A n c l cd.1 d w1 (H.out.below H1.out.1))).mono ?_⟩
  rintro e w2 ⟨rfl, hb2⟩
  have hr2 := H1.out.2.2.2.1.below hb2 H1.out.2.2.2.1.lt
  have c2 : w2.cell? ⟨b + 1 + 1, 0, none⟩ = some (.bool false) := hr2.cell 0
  have f2 : w2.frozen? ⟨b + 1 + 1, 0, none⟩ = false := hr2.frozen 0
  have H2 := Lib.hid (And.intro (H1.out.1.trans (hb2.mono H1.out.1.size)) (And.intro (H1.out.2.1.below hb2 H1.out.2.1.lt) (And.intro (H1.out.2.2.1.below hb2 H1.out.2.2.1.lt) hr2)))
  clear hb2 hr2
  dsimp only
  cases hd : Pe.dead l cd.1 d
  case true =>
    have HD := Lib.hid hd
    clear hd
    gi_wp2
    have h9 := H2.out.2.2.2.put 0 (.bool false)
    have hc5 := h9.cell 0
    refine ⟨.bool false, ?_, ?_, ?_⟩
    · simp [results, Tryz.f56, go_sem, hc5]
    · have : Pe.refuses l cd s d = false := by unfold Pe.refuses; rw [HD.out]; rfl
      rw [this]
    · exact H2.out.1.setCell (p := ⟨b + 1 + 1, 0, none⟩) (by have := H1.out.2.2.2.2; simp; omega) _
  have HD := Lib.hid hd
  clear hd c2 f2
  gi_wp2_with fail
  refine ⟨trivial, (callsIn_wide.2 (all_calls A n c 7 d _)).mono ?_⟩
  rintro e w' ⟨rfl, rfl⟩
  obtain ⟨B, hB⟩ : ∃ B, B = w2.heap.size := ⟨_, rfl⟩
  have hi := Its.new w2 A n c 7 d
  obtain ⟨W0, hW0⟩ : ∃ W0, W0 = ((w2.alloc (.cells #[.slice A n c] 22)).alloc (.cells #[.int .u8 ((7 : Nat) : Int)] 5)).alloc (.cells #[.int .i64 d] 3) := ⟨_, rfl⟩
  have hc0 := ((H2.out.2.1.alloc (.cells #[.slice A n c] 22)).alloc (.cells #[.int .u8 ((7 : Nat) : Int)] 5)).alloc (.cells #[.int .i64 d] 3)
  have hs0 := ((H2.out.2.2.1.alloc (.cells #[.slice A n c] 22)).alloc (.cells #[.int .u8 ((7 : Nat) : Int)] 5)).alloc (.cells #[.int .i64 d] 3)
  have hr0 := ((H2.out.2.2.2.alloc (.cells #[.slice A n c] 22)).alloc (.cells #[.int .u8 ((7 : Nat) : Int)] 5)).alloc (.cells #[.int .i64 d] 3)
  have hB0 := ((H2.out.1.alloc H2.out.1.size (.cells #[.slice A n c] 22)).alloc (by have := H2.out.1.size; simp; omega) (.cells #[.int .u8 ((7 : Nat) : Int)] 5)).alloc (by have := H2.out.1.size; simp; omega) (.cells #[.int .i64 d] 3)
  have hsz : W0.heap.size = w2.heap.size + 3 := by rw [hW0]; simp
  have hlt : b + 1 + 1 < B := by rw [hB]; exact H2.out.2.2.2.lt
  rw [← hW0] at hi hc0 hs0 hr0 hB0 ⊢
  rw [← hB] at hi ⊢
  have HW := Lib.hid (And.intro hi (And.intro hc0 (And.intro hs0 (And.intro hr0 (And.intro hB0 (And.intro hsz (And.intro hB hlt)))))))
  clear hi hc0 hs0 hr0 hB0 hW0 hsz hB hlt
  have hlow : w.heap.size ≤ b := by have := H1.out.2.2.2.2; omega
  gi_wp2_with fail
  refine wpIn_rangeFunc_ownH rfl (by omega) (gf := 93) (lb := #[.pointer (some ⟨B, 0, none⟩), .pointer (some ⟨B + 1, 0, none⟩), .pointer (some ⟨B + 1 + 1, 0, none⟩)]) rfl trivial (enters_of Tryz.func93 (by kernel_rfl) rfl)
    (all_stops 4 (by omega) w.heap.size B A n c 7 d l w W0 rfl HW.out.2.2.2.2.1 H.out HW.out.1.b0 HW.out.1.b1 HW.out.1.b2) Keeps3.trans (Keeps3.put (by have := HW.out; omega) (by have := HW.out; omega)) (Below.refl _ _) (fun _ => rfl)
    (fun pre W => (Blk W b 28 (pCells cd) ∧ Blk W (b + 1) 3 #[.int .i64 s] ∧ Blk W (b + 1 + 1) 4 #[.bool false] ∧ W0.heap.size ≤ W.heap.size ∧ (pre.map Subtype.val).any (refB cd s) = false) ∧ Below w.heap.size w W)
    (fun jc pre W => (jc = .ret ∧ Blk W (b + 1 + 1) 4 #[.bool true] ∧ (pre.map Subtype.val).any (refB cd s) = true) ∧ Below w.heap.size w W)
    (fun _ X Y row hs hg hr => ⟨⟨hs.1.1.own hg hr, hs.1.2.1.own hg hr, hs.1.2.2.1.own hg hr, Nat.le_trans hs.1.2.2.2.1 hg.size, hs.1.2.2.2.2⟩, below_own hs.2 (Nat.le_refl _) (by have := HW.out; omega) hg hr⟩)
    (fun _ _ X Y row hs hg hr => ⟨⟨hs.1.1, hs.1.2.1.own hg hr, hs.1.2.2⟩, below_own hs.2 (Nat.le_refl _) (by have := HW.out; omega) hg hr⟩)
    ⟨⟨HW.out.2.1, HW.out.2.2.1, HW.out.2.2.2.1, Nat.le_refl _, rfl⟩, HW.out.2.2.2.2.1⟩
    (fun x a' W => ∃ Bx, W0.heap.size ≤ Bx ∧ Blk W Bx 31 (eCells x.1) ∧ a' = { tmps := #[.slice A n c, .agg (pCells cd), .int .i64 s, .int .i64 d, undef, .pointer (some ⟨b, 0, none⟩), .pointer (some ⟨b + 1, 0, none⟩), undef, .pointer (some ⟨b + 1 + 1, 0, none⟩), .pointer (some ⟨Bx, 0, none⟩), .slice A n c, .pointer (some ⟨b, 0, none⟩), .int .i64 cd.1, .int .i64 d, .bool false, .slice A n c, .int .i64 d, .func (.func 93) #[] #[.pointer (some ⟨B, 0, none⟩), .pointer (some ⟨B + 1, 0, none⟩), .pointer (some ⟨B + 1 + 1, 0, none⟩)], .agg (eCells x.1), undef, undef, undef, undef, undef, undef, undef, undef, undef, undef, undef, undef, undef, undef, undef, undef, undef, undef, undef, undef, undef, undef, undef, undef, undef, undef, undef, undef], defers := [] })
    (fun x a' _ X Y row hs hg hr => by obtain ⟨Bx, h1, h2, h3⟩ := hs; exact ⟨Bx, h1, h2.own hg hr, h3⟩)
    ?assign ?body ?done ?stop
  case assign =>
    rintro lp pre x W K ⟨⟨h1, h2, h3, h4, h6⟩, h5⟩ hK
    have HA := Lib.hid (And.intro h1 (And.intro h2 (And.intro h3 (And.intro h4 (And.intro h5 h6)))))
    clear h1 h2 h3 h4 h5 h6
    unfold eCells
    gi_wp2
    exact hK _ _ ((KeepsOthers.alloc _ _).from _) (Keeps3.of_below ((Below.refl _ W).alloc (Nat.le_refl _) _)) ⟨⟨HA.out.1.alloc _, HA.out.2.1.alloc _, HA.out.2.2.1.alloc _, by simp; have := HA.out.2.2.2.1; omega, HA.out.2.2.2.2.2⟩, HA.out.2.2.2.2.1.alloc HA.out.2.2.2.2.1.size _⟩ ⟨W.heap.size, HA.out.2.2.2.1, Blk.fresh W 31 (eCells x.1), rfl⟩
  case body =>
    rintro lp pre x a' W hl ⟨r, hr⟩ ⟨⟨h1, h2, h3, h4, h6⟩, h5⟩ ⟨Bx, hBx, bX, rfl⟩ hlt
    have c0 : W.cell? ⟨b, 0, none⟩ = some (.int .i64 cd.1) := h1.cell 0
    have c1 : W.cell? ⟨b, 1, none⟩ = some (.int .i64 cd.2) := h1.cell 1
    have c2 : W.cell? ⟨b + 1, 0, none⟩ = some (.int .i64 s) := h2.cell 0
    have c3 : W.cell? ⟨b + 1 + 1, 0, none⟩ = some (.bool false) := h3.cell 0
    have f3 : W.frozen? ⟨b + 1 + 1, 0, none⟩ = false := h3.frozen 0
    have x4 : W.cell? ⟨Bx, 4, none⟩ = some (.int .i64 x.1.person) := bX.cell 4
    have x5 : W.cell? ⟨Bx, 5, none⟩ = some (.int .i64 x.1.place) := bX.cell 5
    have x6 : W.cell? ⟨Bx, 6, none⟩ = some (.int .i64 x.1.other) := bX.cell 6
    have HA := Lib.hid (And.intro h1 (And.intro h2 (And.intro h3 (And.intro h4 (And.intro h5 h6)))))
    clear h1 h2 h3 h4 h5 h6 hr bX
    have hpn : 1 ≤ 5 - 1 - 1 := by omega
    have hany : ((pre ++ [x]).map Subtype.val).any (refB cd s) = refB cd s x.1 := by
      rw [List.map_append, List.any_append, HA.out.2.2.2.2.2]; simp
    unfold refB at hany
    have HN := Lib.hid hany
    clear hany
    cases q1 : (x.1.person == cd.1) <;> cases q2 : (x.1.place == 0) <;> cases q3 : (x.1.place == cd.2) <;> cases q4 : (x.1.other == 0) <;> cases q5 : (x.1.other == s)
    all_goals
      have HQ := Lib.hid (And.intro q1 (And.intro q2 (And.intro q3 (And.intro q4 q5))))
      gi_wp2
      first
        | exact ⟨KeepsFrom.refl _ _, Keeps3.refl _ _ _, ⟨HA.out.1, HA.out.2.1, HA.out.2.2.1, HA.out.2.2.2.1, by have e := HN.out; rw [HQ.out.1, HQ.out.2.1, HQ.out.2.2.1, HQ.out.2.2.2.1, HQ.out.2.2.2.2] at e; exact e⟩, HA.out.2.2.2.2.1⟩
        | exact ⟨(KeepsOthers.setCell _ _ _).from _, ⟨rfl, HA.out.2.2.1.put 0 _, by have e := HN.out; rw [HQ.out.1, HQ.out.2.1, HQ.out.2.2.1, HQ.out.2.2.2.1, HQ.out.2.2.2.2] at e; exact e⟩, HA.out.2.2.2.2.1.setCell (p := ⟨b + 1 + 1, 0, none⟩) (by simp; omega) _⟩
  case done =>
    rintro D ys W hD hS ⟨⟨h1, h2, h3, h4, h6⟩, h5⟩ hK
    have c3 : W.cell? ⟨b + 1 + 1, 0, none⟩ = some (.bool false) := h3.cell 0
    have f3 : W.frozen? ⟨b + 1 + 1, 0, none⟩ = false := h3.frozen 0
    have HA := Lib.hid (And.intro h3 (And.intro h4 (And.intro h5 (And.intro h6 hS))))
    clear h1 h2 h3 h4 h5 h6 hS
    gi_wp2
    have hK' := (KeepsOthers.setCell W ⟨b + 1 + 1, 0, none⟩ (.bool false)).same D _ hK rfl
    refine ⟨by simp, .inl ⟨_, _, rfl, run_takeDeferred hK', ?_⟩⟩
    have h9 := (HA.out.1.put 0 (.bool false)).own (B := 0) (grownBy_putObj' _ D (.deferred none)) (by rintro r e; cases e; exact ⟨Nat.zero_le _, _, hK', rfl⟩)
    have hc5 := h9.cell 0
    refine ⟨.bool false, ?_, ?_, ?_⟩
    · simp [results, Tryz.f56, go_sem, hc5]
    · have : Pe.refuses l cd s d = false := by
        unfold Pe.refuses
        rw [HD.out, ← HA.out.2.2.2.2]
        exact HA.out.2.2.2.1
      rw [this]
    · exact (HA.out.2.2.1.setCell (p := ⟨b + 1 + 1, 0, none⟩) (by simp; omega) _).trans (belowK_b (w := w) (Nat.le_refl _) _ D _ _ (by have := HW.out; omega) hK' rfl rfl)
  case stop =>
    rintro D jc pre W hD hS ⟨⟨rfl, h2, h4⟩, h5⟩ hK
    have HA := Lib.hid (And.intro h2 (And.intro h4 (And.intro h5 hS)))
    clear h2 h4 h5 hS
    gi_wp2
    refine ⟨by simp, .inl ⟨_, _, rfl, run_takeDeferred hK, ?_⟩⟩
    have h9 := HA.out.1.own (B := 0) (grownBy_putObj' _ D (.deferred none)) (by rintro r e; cases e; exact ⟨Nat.zero_le _, _, hK, rfl⟩)
    have hc5 := h9.cell 0
    refine ⟨.bool true, ?_, ?_, ?_⟩
    · simp [results, Tryz.f56, go_sem, hc5]
    · have : Pe.refuses l cd s d = true := by
        unfold Pe.refuses
        obtain ⟨t, ht⟩ := HA.out.2.2.2
        rw [HD.out, ← ht, List.any_append]
        have := HA.out.2.1
        unfold refB at this
        rw [this]; rfl
      rw [this]
    · exact HA.out.2.2.1.trans (belowK_b (w := w) (Nat.le_refl _) _ D _ _ (by have := HW.out; omega) hK rfl rfl)

end Go.Proofs.YtnphlekailodkaaGreatDoor
