/-
  Heir and Home of the directory.
-/
import Derived.Test.YtnphlekailodkaaGreatDoorDd
import Derived.Sort.BigQuietIn
namespace Go.Proofs.YtnphlekailodkaaGreatDoor
open Go.RowKit Go.Shelf

attribute [local go_sem] Oper.semAt_some
theorem lastOf_map_snoc (pre : List EntW) (x : EntW) (q : Pe.Ent → Bool) : Pe.lastOf ((pre ++ [x]).map Subtype.val) q = if q x.1 = true then some x.1 else Pe.lastOf (pre.map Subtype.val) q := by
  rw [List.map_append]; exact Pe.lastOf_snoc _ _ _

set_option maxRecDepth 1000000 in
set_option maxHeartbeats 4000000 in
theorem Heir_calls (A : Option Addr) (n c : Nat) (l : List Pe.Ent) (p d : Int) (w : World) (h : EntsAt w A n l) :
    Calls Tryz.prog 34 #[.slice A n c, .int .i64 p, .int .i64 d] w fun e w' => e = .returned (.tuple #[.int .i64 ((Pe.heir? l p d).getD 0), .bool (Pe.heir? l p d).isSome]) ∧ Below w.heap.size w w' := by
  have H := Lib.hid h
  clear h
  refine (callsIn_wide (n := 5)).1 ?_
  refine callsIn_of_wp_marks Tryz.func34 rfl trivial ?_ rfl
  simp only [Tryz.ntmps34, List.size_toArray, List.length_cons, List.length_nil, Nat.reduceAdd, Nat.reduceSub, Array.replicate_succ, Array.replicate_zero, List.push_toArray, List.append_toArray, List.nil_append, List.cons_append]
  gi_wp2_with fail
  refine ⟨trivial, (callsIn_wide.2 (all_calls A n c 4 d _)).mono ?_⟩
  rintro e w' ⟨rfl, rfl⟩
  obtain ⟨b, hb⟩ : ∃ b, b = w.heap.size := ⟨_, rfl⟩
  obtain ⟨W0, hW0⟩ : ∃ W0, W0 = (((((w.alloc (.cells #[.int .i64 p] 3)).alloc (.cells #[.int .i64 0] 3)).alloc (.cells #[.bool false] 4)).alloc (.cells #[.slice A n c] 22)).alloc (.cells #[.int .u8 ((4 : Nat) : Int)] 5)).alloc (.cells #[.int .i64 d] 3) := ⟨_, rfl⟩
  have hi := Its.new (((w.alloc (.cells #[.int .i64 p] 3)).alloc (.cells #[.int .i64 0] 3)).alloc (.cells #[.bool false] 4)) A n c 4 d
  have hp := (((((Blk.fresh w 3 #[.int .i64 p]).alloc (.cells #[.int .i64 0] 3)).alloc (.cells #[.bool false] 4)).alloc (.cells #[.slice A n c] 22)).alloc (.cells #[.int .u8 ((4 : Nat) : Int)] 5)).alloc (.cells #[.int .i64 d] 3)
  have hv := ((((Blk.fresh (w.alloc (.cells #[.int .i64 p] 3)) 3 #[.int .i64 0]).alloc (.cells #[.bool false] 4)).alloc (.cells #[.slice A n c] 22)).alloc (.cells #[.int .u8 ((4 : Nat) : Int)] 5)).alloc (.cells #[.int .i64 d] 3)
  have ho := (((Blk.fresh ((w.alloc (.cells #[.int .i64 p] 3)).alloc (.cells #[.int .i64 0] 3)) 4 #[.bool false]).alloc (.cells #[.slice A n c] 22)).alloc (.cells #[.int .u8 ((4 : Nat) : Int)] 5)).alloc (.cells #[.int .i64 d] 3)
  have hB := ((((((Below.refl _ w).alloc (Nat.le_refl _) (.cells #[.int .i64 p] 3)).alloc (by simp) (.cells #[.int .i64 0] 3)).alloc (by simp; omega) (.cells #[.bool false] 4)).alloc (by simp; omega) (.cells #[.slice A n c] 22)).alloc (by simp; omega) (.cells #[.int .u8 ((4 : Nat) : Int)] 5)).alloc (by simp; omega) (.cells #[.int .i64 d] 3)
  have hsz : W0.heap.size = w.heap.size + 6 := by rw [hW0]; simp
  simp only [World.size_alloc] at hi hv ho ⊢
  rw [← hW0] at hi hp hv ho hB ⊢
  rw [← hb] at hi hp hv ho ⊢
  have HW := Lib.hid (And.intro hi (And.intro hp (And.intro hv (And.intro ho (And.intro hB (And.intro hsz hb))))))
  clear hi hp hv ho hB hW0 hsz hb
  obtain ⟨Lv, hLv⟩ : ∃ Lv : List EntW → Option Int, Lv = fun pre => (Pe.lastOf (pre.map Subtype.val) fun x => x.person == p).map (·.other) := ⟨_, rfl⟩
  have HL := Lib.hid hLv
  clear hLv
  gi_wp2_with fail
  refine wpIn_rangeFunc_ownH rfl (by omega) (gf := 93) (lb := #[.pointer (some ⟨b + 1 + 1 + 1, 0, none⟩), .pointer (some ⟨b + 1 + 1 + 1 + 1, 0, none⟩), .pointer (some ⟨b + 1 + 1 + 1 + 1 + 1, 0, none⟩)]) rfl trivial (enters_of Tryz.func93 (by kernel_rfl) rfl)
    (all_stops 4 (by omega) w.heap.size (b + 1 + 1 + 1) A n c 4 d l w W0 rfl HW.out.2.2.2.2.1 H.out HW.out.1.b0 HW.out.1.b1 HW.out.1.b2) Keeps3.trans (Keeps3.put (by have := HW.out; omega) (by have := HW.out; omega)) (Below.refl _ _) (fun _ => rfl)
    (fun pre W => (Blk W b 3 #[.int .i64 p] ∧ Blk W (b + 1) 3 #[.int .i64 ((Lv pre).getD 0)] ∧ Blk W (b + 1 + 1) 4 #[.bool (Lv pre).isSome] ∧ W0.heap.size ≤ W.heap.size) ∧ Below w.heap.size w W)
    (fun _ _ _ => False)
    (fun s X Y row hs hg hr => ⟨⟨hs.1.1.own hg hr, hs.1.2.1.own hg hr, hs.1.2.2.1.own hg hr, Nat.le_trans hs.1.2.2.2 hg.size⟩, below_own hs.2 (Nat.le_refl _) (by have := HW.out; omega) hg hr⟩)
    (fun _ _ _ _ _ hs _ _ => hs)
    ⟨⟨HW.out.2.1, by rw [HL.out]; exact HW.out.2.2.1, by rw [HL.out]; exact HW.out.2.2.2.1, Nat.le_refl _⟩, HW.out.2.2.2.2.1⟩
    (fun x a' W => ∃ Bx, W0.heap.size ≤ Bx ∧ Blk W Bx 31 (eCells x.1) ∧ a' = { tmps := #[.slice A n c, .int .i64 p, .int .i64 d, undef, .pointer (some ⟨b, 0, none⟩), undef, .int .i64 0, .bool false, .pointer (some ⟨b + 1, 0, none⟩), .pointer (some ⟨b + 1 + 1, 0, none⟩), .pointer (some ⟨Bx, 0, none⟩), .slice A n c, .int .i64 d, .func (.func 93) #[] #[.pointer (some ⟨b + 1 + 1 + 1, 0, none⟩), .pointer (some ⟨b + 1 + 1 + 1 + 1, 0, none⟩), .pointer (some ⟨b + 1 + 1 + 1 + 1 + 1, 0, none⟩)], .agg (eCells x.1), undef, undef, undef, undef, undef, undef, undef, undef], defers := [] })
    (fun x a' _ X Y row hs hg hr => by obtain ⟨Bx, h1, h2, h3⟩ := hs; exact ⟨Bx, h1, h2.own hg hr, h3⟩)
    ?assign ?body ?done ?stop
  case assign =>
    rintro lp pre x W K ⟨⟨h1, h2, h3, h4⟩, h5⟩ hK
    have HA := Lib.hid (And.intro h1 (And.intro h2 (And.intro h3 (And.intro h4 h5))))
    clear h1 h2 h3 h4 h5
    unfold eCells
    gi_wp2
    exact hK _ _ ((KeepsOthers.alloc _ _).from _) (Keeps3.of_below ((Below.refl _ W).alloc (Nat.le_refl _) _)) ⟨⟨HA.out.1.alloc _, HA.out.2.1.alloc _, HA.out.2.2.1.alloc _, by simp; have := HA.out.2.2.2.1; omega⟩, HA.out.2.2.2.2.alloc HA.out.2.2.2.2.size _⟩ ⟨W.heap.size, HA.out.2.2.2.1, Blk.fresh W 31 (eCells x.1), rfl⟩
  case body =>
    rintro lp pre x a' W hl ⟨r, hr⟩ ⟨⟨h1, h2, h3, h4⟩, h5⟩ ⟨Bx, hBx, bX, rfl⟩ hlt
    obtain ⟨v2, hv2⟩ : ∃ v, v = (Lv pre).getD 0 := ⟨_, rfl⟩
    obtain ⟨v3, hv3⟩ : ∃ v, v = (Lv pre).isSome := ⟨_, rfl⟩
    rw [← hv2] at h2
    rw [← hv3] at h3
    have c0 : W.cell? ⟨b, 0, none⟩ = some (.int .i64 p) := h1.cell 0
    have c1 : W.cell? ⟨b + 1, 0, none⟩ = some (.int .i64 v2) := h2.cell 0
    have f1 : W.frozen? ⟨b + 1, 0, none⟩ = false := h2.frozen 0
    have c2 : W.cell? ⟨b + 1 + 1, 0, none⟩ = some (.bool v3) := h3.cell 0
    have f2 : W.frozen? ⟨b + 1 + 1, 0, none⟩ = false := h3.frozen 0
    have cX : W.cell? ⟨Bx, 4, none⟩ = some (.int .i64 x.1.person) := bX.cell 4
    have cY : W.cell? ⟨Bx, 6, none⟩ = some (.int .i64 x.1.other) := bX.cell 6
    have HA := Lib.hid (And.intro h1 (And.intro h2 (And.intro h3 (And.intro h4 (And.intro h5 (And.intro hv2 hv3))))))
    clear h1 h2 h3 h4 h5 hr hv2 hv3
    have hpn : 1 ≤ 5 - 1 - 1 := by omega
    cases q : (x.1.person == p)
    · have HQ := Lib.hid q
      have e : Lv (pre ++ [x]) = Lv pre := by rw [HL.out]; simp only [lastOf_map_snoc, q]; rfl
      have HE := Lib.hid e
      clear e
      gi_wp2
      exact ⟨KeepsFrom.refl _ _, Keeps3.refl _ _ _, ⟨HA.out.1, by rw [HE.out, ← HA.out.2.2.2.2.2.1]; exact HA.out.2.1, by rw [HE.out, ← HA.out.2.2.2.2.2.2]; exact HA.out.2.2.1, HA.out.2.2.2.1⟩, HA.out.2.2.2.2.1⟩
    · have HQ := Lib.hid q
      have e : Lv (pre ++ [x]) = some x.1.other := by rw [HL.out]; simp only [lastOf_map_snoc, q]; rfl
      have HE := Lib.hid e
      clear e
      gi_wp2
      have hs := HW.out.2.2.2.2.2
      refine ⟨(((KeepsOthers.setCell _ _ _).trans (KeepsOthers.setCell _ _ _))).from _, Keeps3.of_chg (((Chg.refl (fun i => i = b + 1 ∨ i = b + 1 + 1) W).setCell (p := ⟨b + 1, 0, none⟩) (.inl (.inl rfl)) _).setCell (p := ⟨b + 1 + 1, 0, none⟩) (.inl (.inr rfl)) _) (fun i hi => by omega), ⟨?_, ?_, ?_, ?_⟩, ?_⟩
      · exact (HA.out.1.far (by simp only [ne_eq]; omega) _).far (by simp only [ne_eq]; omega) _
      · rw [HE.out]; exact (HA.out.2.1.put 0 _).far (by simp only [ne_eq]; omega) _
      · rw [HE.out]; exact (HA.out.2.2.1.far (by simp only [ne_eq]; omega) _).put 0 _
      · have := HA.out.2.2.2.1; simpa [World.setCell] using this
      · exact (HA.out.2.2.2.2.1.setCell (p := ⟨b + 1, 0, none⟩) (by simp; omega) _).setCell (p := ⟨b + 1 + 1, 0, none⟩) (by simp; omega) _
  case done =>
    rintro D ys W hD hS ⟨⟨h1, h2, h3, h4⟩, h5⟩ hK
    have e : Pe.heir? l p d = Lv ys := by rw [HL.out, Pe.heir?, ← hS]
    obtain ⟨v2, hv2⟩ : ∃ v, v = (Lv ys).getD 0 := ⟨_, rfl⟩
    obtain ⟨v3, hv3⟩ : ∃ v, v = (Lv ys).isSome := ⟨_, rfl⟩
    rw [← hv2] at h2
    rw [← hv3] at h3
    have c1 : W.cell? ⟨b + 1, 0, none⟩ = some (.int .i64 v2) := h2.cell 0
    have c2 : W.cell? ⟨b + 1 + 1, 0, none⟩ = some (.bool v3) := h3.cell 0
    rw [← e] at hv2 hv3
    have HA := Lib.hid (And.intro h1 (And.intro h2 (And.intro h3 (And.intro h4 (And.intro h5 (And.intro hv2 hv3))))))
    have HKD := Lib.hid hK
    clear h1 h2 h3 h4 h5 hS e hv2 hv3 hK
    gi_wp2_with fail
    gi_big_quiet_th (fail)
    gi_wp2
    have hK' : (W.drewN nq).heap[D]? = some (.deferred (some [])) := HKD.out
    refine ⟨by simp, .inl ⟨_, _, rfl, run_takeDeferred hK', ?_⟩⟩
    refine ⟨_, results_tmp2 rfl _ _ _, ?_, ?_⟩
    · rw [← HA.out.2.2.2.2.2.1, ← HA.out.2.2.2.2.2.2]; rfl
    · exact (HA.out.2.2.2.2.1.trans ((below_drewN W nq).mono HA.out.2.2.2.2.1.size)).trans (belowK_b (w := w) (Nat.le_refl _) _ D _ _ (by have := HW.out; omega) hK' rfl rfl)
  case stop =>
    rintro D cd pre W hD hS h hK
    exact h.elim

set_option maxRecDepth 1000000 in
set_option maxHeartbeats 4000000 in
theorem Home_calls (A : Option Addr) (n c : Nat) (l : List Pe.Ent) (p d : Int) (w : World) (h : EntsAt w A n l) :
    Calls Tryz.prog 32 #[.slice A n c, .int .i64 p, .int .i64 d] w fun e w' => e = .returned (.tuple #[.int .i64 ((Pe.home? l p d).getD 0), .bool (Pe.home? l p d).isSome]) ∧ Below w.heap.size w w' := by
  have H := Lib.hid h
  clear h
  refine (callsIn_wide (n := 5)).1 ?_
  refine callsIn_of_wp_marks Tryz.func32 rfl trivial ?_ rfl
  simp only [Tryz.ntmps32, List.size_toArray, List.length_cons, List.length_nil, Nat.reduceAdd, Nat.reduceSub, Array.replicate_succ, Array.replicate_zero, List.push_toArray, List.append_toArray, List.nil_append, List.cons_append]
  gi_wp2_with fail
  refine ⟨trivial, (callsIn_wide.2 (all_calls A n c 2 d _)).mono ?_⟩
  rintro e w' ⟨rfl, rfl⟩
  obtain ⟨b, hb⟩ : ∃ b, b = w.heap.size := ⟨_, rfl⟩
  obtain ⟨W0, hW0⟩ : ∃ W0, W0 = (((((w.alloc (.cells #[.int .i64 p] 3)).alloc (.cells #[.int .i64 0] 3)).alloc (.cells #[.bool false] 4)).alloc (.cells #[.slice A n c] 22)).alloc (.cells #[.int .u8 ((2 : Nat) : Int)] 5)).alloc (.cells #[.int .i64 d] 3) := ⟨_, rfl⟩
  have hi := Its.new (((w.alloc (.cells #[.int .i64 p] 3)).alloc (.cells #[.int .i64 0] 3)).alloc (.cells #[.bool false] 4)) A n c 2 d
  have hp := (((((Blk.fresh w 3 #[.int .i64 p]).alloc (.cells #[.int .i64 0] 3)).alloc (.cells #[.bool false] 4)).alloc (.cells #[.slice A n c] 22)).alloc (.cells #[.int .u8 ((2 : Nat) : Int)] 5)).alloc (.cells #[.int .i64 d] 3)
  have hv := ((((Blk.fresh (w.alloc (.cells #[.int .i64 p] 3)) 3 #[.int .i64 0]).alloc (.cells #[.bool false] 4)).alloc (.cells #[.slice A n c] 22)).alloc (.cells #[.int .u8 ((2 : Nat) : Int)] 5)).alloc (.cells #[.int .i64 d] 3)
  have ho := (((Blk.fresh ((w.alloc (.cells #[.int .i64 p] 3)).alloc (.cells #[.int .i64 0] 3)) 4 #[.bool false]).alloc (.cells #[.slice A n c] 22)).alloc (.cells #[.int .u8 ((2 : Nat) : Int)] 5)).alloc (.cells #[.int .i64 d] 3)
  have hB := ((((((Below.refl _ w).alloc (Nat.le_refl _) (.cells #[.int .i64 p] 3)).alloc (by simp) (.cells #[.int .i64 0] 3)).alloc (by simp; omega) (.cells #[.bool false] 4)).alloc (by simp; omega) (.cells #[.slice A n c] 22)).alloc (by simp; omega) (.cells #[.int .u8 ((2 : Nat) : Int)] 5)).alloc (by simp; omega) (.cells #[.int .i64 d] 3)
  have hsz : W0.heap.size = w.heap.size + 6 := by rw [hW0]; simp
  simp only [World.size_alloc] at hi hv ho ⊢
  rw [← hW0] at hi hp hv ho hB ⊢
  rw [← hb] at hi hp hv ho ⊢
  have HW := Lib.hid (And.intro hi (And.intro hp (And.intro hv (And.intro ho (And.intro hB (And.intro hsz hb))))))
  clear hi hp hv ho hB hW0 hsz hb
  obtain ⟨Lv, hLv⟩ : ∃ Lv : List EntW → Option Int, Lv = fun pre => (Pe.lastOf (pre.map Subtype.val) fun x => x.person == p).map (·.place) := ⟨_, rfl⟩
  have HL := Lib.hid hLv
  clear hLv
  gi_wp2_with fail
  refine wpIn_rangeFunc_ownH rfl (by omega) (gf := 93) (lb := #[.pointer (some ⟨b + 1 + 1 + 1, 0, none⟩), .pointer (some ⟨b + 1 + 1 + 1 + 1, 0, none⟩), .pointer (some ⟨b + 1 + 1 + 1 + 1 + 1, 0, none⟩)]) rfl trivial (enters_of Tryz.func93 (by kernel_rfl) rfl)
    (all_stops 4 (by omega) w.heap.size (b + 1 + 1 + 1) A n c 2 d l w W0 rfl HW.out.2.2.2.2.1 H.out HW.out.1.b0 HW.out.1.b1 HW.out.1.b2) Keeps3.trans (Keeps3.put (by have := HW.out; omega) (by have := HW.out; omega)) (Below.refl _ _) (fun _ => rfl)
    (fun pre W => (Blk W b 3 #[.int .i64 p] ∧ Blk W (b + 1) 3 #[.int .i64 ((Lv pre).getD 0)] ∧ Blk W (b + 1 + 1) 4 #[.bool (Lv pre).isSome] ∧ W0.heap.size ≤ W.heap.size) ∧ Below w.heap.size w W)
    (fun _ _ _ => False)
    (fun s X Y row hs hg hr => ⟨⟨hs.1.1.own hg hr, hs.1.2.1.own hg hr, hs.1.2.2.1.own hg hr, Nat.le_trans hs.1.2.2.2 hg.size⟩, below_own hs.2 (Nat.le_refl _) (by have := HW.out; omega) hg hr⟩)
    (fun _ _ _ _ _ hs _ _ => hs)
    ⟨⟨HW.out.2.1, by rw [HL.out]; exact HW.out.2.2.1, by rw [HL.out]; exact HW.out.2.2.2.1, Nat.le_refl _⟩, HW.out.2.2.2.2.1⟩
    (fun x a' W => ∃ Bx, W0.heap.size ≤ Bx ∧ Blk W Bx 31 (eCells x.1) ∧ a' = { tmps := #[.slice A n c, .int .i64 p, .int .i64 d, undef, .pointer (some ⟨b, 0, none⟩), undef, .int .i64 0, .bool false, .pointer (some ⟨b + 1, 0, none⟩), .pointer (some ⟨b + 1 + 1, 0, none⟩), .pointer (some ⟨Bx, 0, none⟩), .slice A n c, .int .i64 d, .func (.func 93) #[] #[.pointer (some ⟨b + 1 + 1 + 1, 0, none⟩), .pointer (some ⟨b + 1 + 1 + 1 + 1, 0, none⟩), .pointer (some ⟨b + 1 + 1 + 1 + 1 + 1, 0, none⟩)], .agg (eCells x.1), undef, undef, undef, undef, undef, undef, undef, undef, undef, undef, undef, undef, undef, undef, undef], defers := [] })
    (fun x a' _ X Y row hs hg hr => by obtain ⟨Bx, h1, h2, h3⟩ := hs; exact ⟨Bx, h1, h2.own hg hr, h3⟩)
    ?assign ?body ?done ?stop
  case assign =>
    rintro lp pre x W K ⟨⟨h1, h2, h3, h4⟩, h5⟩ hK
    have HA := Lib.hid (And.intro h1 (And.intro h2 (And.intro h3 (And.intro h4 h5))))
    clear h1 h2 h3 h4 h5
    unfold eCells
    gi_wp2
    exact hK _ _ ((KeepsOthers.alloc _ _).from _) (Keeps3.of_below ((Below.refl _ W).alloc (Nat.le_refl _) _)) ⟨⟨HA.out.1.alloc _, HA.out.2.1.alloc _, HA.out.2.2.1.alloc _, by simp; have := HA.out.2.2.2.1; omega⟩, HA.out.2.2.2.2.alloc HA.out.2.2.2.2.size _⟩ ⟨W.heap.size, HA.out.2.2.2.1, Blk.fresh W 31 (eCells x.1), rfl⟩
  case body =>
    rintro lp pre x a' W hl ⟨r, hr⟩ ⟨⟨h1, h2, h3, h4⟩, h5⟩ ⟨Bx, hBx, bX, rfl⟩ hlt
    obtain ⟨v2, hv2⟩ : ∃ v, v = (Lv pre).getD 0 := ⟨_, rfl⟩
    obtain ⟨v3, hv3⟩ : ∃ v, v = (Lv pre).isSome := ⟨_, rfl⟩
    rw [← hv2] at h2
    rw [← hv3] at h3
    have c0 : W.cell? ⟨b, 0, none⟩ = some (.int .i64 p) := h1.cell 0
    have c1 : W.cell? ⟨b + 1, 0, none⟩ = some (.int .i64 v2) := h2.cell 0
    have f1 : W.frozen? ⟨b + 1, 0, none⟩ = false := h2.frozen 0
    have c2 : W.cell? ⟨b + 1 + 1, 0, none⟩ = some (.bool v3) := h3.cell 0
    have f2 : W.frozen? ⟨b + 1 + 1, 0, none⟩ = false := h3.frozen 0
    have cX : W.cell? ⟨Bx, 4, none⟩ = some (.int .i64 x.1.person) := bX.cell 4
    have cY : W.cell? ⟨Bx, 5, none⟩ = some (.int .i64 x.1.place) := bX.cell 5
    have HA := Lib.hid (And.intro h1 (And.intro h2 (And.intro h3 (And.intro h4 (And.intro h5 (And.intro hv2 hv3))))))
    clear h1 h2 h3 h4 h5 hr hv2 hv3
    have hpn : 1 ≤ 5 - 1 - 1 := by omega
    cases q : (x.1.person == p)
    · have HQ := Lib.hid q
      have e : Lv (pre ++ [x]) = Lv pre := by rw [HL.out]; simp only [lastOf_map_snoc, q]; rfl
      have HE := Lib.hid e
      clear e
      gi_wp2
      exact ⟨KeepsFrom.refl _ _, Keeps3.refl _ _ _, ⟨HA.out.1, by rw [HE.out, ← HA.out.2.2.2.2.2.1]; exact HA.out.2.1, by rw [HE.out, ← HA.out.2.2.2.2.2.2]; exact HA.out.2.2.1, HA.out.2.2.2.1⟩, HA.out.2.2.2.2.1⟩
    · have HQ := Lib.hid q
      have e : Lv (pre ++ [x]) = some x.1.place := by rw [HL.out]; simp only [lastOf_map_snoc, q]; rfl
      have HE := Lib.hid e
      clear e
      gi_wp2
      have hs := HW.out.2.2.2.2.2
      refine ⟨(((KeepsOthers.setCell _ _ _).trans (KeepsOthers.setCell _ _ _))).from _, Keeps3.of_chg (((Chg.refl (fun i => i = b + 1 ∨ i = b + 1 + 1) W).setCell (p := ⟨b + 1, 0, none⟩) (.inl (.inl rfl)) _).setCell (p := ⟨b + 1 + 1, 0, none⟩) (.inl (.inr rfl)) _) (fun i hi => by omega), ⟨?_, ?_, ?_, ?_⟩, ?_⟩
      · exact (HA.out.1.far (by simp only [ne_eq]; omega) _).far (by simp only [ne_eq]; omega) _
      · rw [HE.out]; exact (HA.out.2.1.put 0 _).far (by simp only [ne_eq]; omega) _
      · rw [HE.out]; exact (HA.out.2.2.1.far (by simp only [ne_eq]; omega) _).put 0 _
      · have := HA.out.2.2.2.1; simpa [World.setCell] using this
      · exact (HA.out.2.2.2.2.1.setCell (p := ⟨b + 1, 0, none⟩) (by simp; omega) _).setCell (p := ⟨b + 1 + 1, 0, none⟩) (by simp; omega) _
  case done =>
    rintro D ys W hD hS ⟨⟨h1, h2, h3, h4⟩, h5⟩ hK
    have e : Pe.home? l p d = if Pe.dead l p d = true then none else Lv ys := by rw [HL.out, Pe.home?, ← hS]
    obtain ⟨v2, hv2⟩ : ∃ v, v = (Lv ys).getD 0 := ⟨_, rfl⟩
    obtain ⟨v3, hv3⟩ : ∃ v, v = (Lv ys).isSome := ⟨_, rfl⟩
    rw [← hv2] at h2
    rw [← hv3] at h3
    have c0 : W.cell? ⟨b, 0, none⟩ = some (.int .i64 p) := h1.cell 0
    have c1 : W.cell? ⟨b + 1, 0, none⟩ = some (.int .i64 v2) := h2.cell 0
    have c2 : W.cell? ⟨b + 1 + 1, 0, none⟩ = some (.bool v3) := h3.cell 0
    have HA := Lib.hid (And.intro h1 (And.intro h2 (And.intro h3 (And.intro h4 (And.intro h5 (And.intro hv2 hv3))))))
    have HKD := Lib.hid (And.intro hK e)
    clear h1 h2 h3 h4 h5 hS e hv2 hv3 hK
    cases v3
    · gi_wp2
      refine ⟨trivial, ?_⟩
      gi_wp2
      refine ⟨by simp, .inl ⟨_, _, rfl, run_takeDeferred HKD.out.1, ?_⟩⟩
      refine ⟨_, results_tmp2 rfl _ _ _, ?_, ?_⟩
      · have h1 : Lv ys = none := by have := HA.out.2.2.2.2.2.2; cases hq : Lv ys with | none => rfl | some z => rw [hq] at this; cases this
        have h2 : Pe.home? l p d = none := by rw [HKD.out.2, h1]; split <;> rfl
        rw [h2]; rfl
      · exact HA.out.2.2.2.2.1.trans (belowK_b (w := w) (Nat.le_refl _) _ D _ _ (by have := HW.out; omega) HKD.out.1 rfl rfl)
    · gi_wp2_with fail
      refine ⟨trivial, (callsIn_wide.2 (Dead_calls A n c l p d W (H.out.below HA.out.2.2.2.2.1))).mono ?_⟩
      rintro e w3 ⟨rfl, hb3⟩
      have h1 := HA.out.2.1.below hb3 HA.out.2.1.lt
      have c1 : w3.cell? ⟨b + 1, 0, none⟩ = some (.int .i64 v2) := h1.cell 0
      have HD := Lib.hid (And.intro hb3 h1)
      clear hb3 h1
      dsimp only
      cases hd : Pe.dead l p d
      · have HDD := Lib.hid hd
        clear hd
        gi_wp2
        have hK' : w3.heap[D]? = some (.deferred (some [])) := (HD.out.1.block D (Array.getElem?_eq_some_iff.1 HKD.out.1).1).trans HKD.out.1
        refine ⟨by simp, .inl ⟨_, _, rfl, run_takeDeferred hK', ?_⟩⟩
        refine ⟨_, results_tmp2 rfl _ _ _, ?_, ?_⟩
        · have h2 : Pe.home? l p d = Lv ys := by rw [HKD.out.2, HDD.out, if_neg (by simp)]
          have h3 : (Pe.home? l p d).isSome = true := by rw [h2, ← HA.out.2.2.2.2.2.2]
          rw [h3, h2, ← HA.out.2.2.2.2.2.1]; rfl
        · exact (HA.out.2.2.2.2.1.trans (HD.out.1.mono HA.out.2.2.2.2.1.size)).trans (belowK_b (w := w) (Nat.le_refl _) _ D _ _ (by have := HW.out; omega) hK' rfl rfl)
      · have HDD := Lib.hid hd
        clear hd
        gi_wp2
        have hK' : w3.heap[D]? = some (.deferred (some [])) := (HD.out.1.block D (Array.getElem?_eq_some_iff.1 HKD.out.1).1).trans HKD.out.1
        refine ⟨by simp, .inl ⟨_, _, rfl, run_takeDeferred hK', ?_⟩⟩
        refine ⟨_, results_tmp2 rfl _ _ _, ?_, ?_⟩
        · have h2 : Pe.home? l p d = none := by rw [HKD.out.2, HDD.out, if_pos rfl]
          rw [h2]; rfl
        · exact (HA.out.2.2.2.2.1.trans (HD.out.1.mono HA.out.2.2.2.2.1.size)).trans (belowK_b (w := w) (Nat.le_refl _) _ D _ _ (by have := HW.out; omega) hK' rfl rfl)
  case stop =>
    rintro D cd pre W hD hS h hK
    exact h.elim

end Go.Proofs.YtnphlekailodkaaGreatDoor
