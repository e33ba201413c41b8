/-
  Dead, Home, Heir of the directory: ranges over the iterator.
-/
import Derived.Test.YtnphlekailodkaaGreatDoorIt
namespace Go.Proofs.YtnphlekailodkaaGreatDoor
open Go.RowKit Go.Shelf

attribute [local go_sem] Oper.semAt_some

theorem all_stops (n : Nat) (hn : 1 ≤ n) (n₀ B : Nat) (A : Option Addr) (len c k : Nat) (d : Int) (l : List Pe.Ent) (w0 w : World) (hn₀ : n₀ = w0.heap.size) (hW : Below w0.heap.size w0 w) (hL : EntsAt w0 A len l)
    (hb0 : Blk w B 22 #[.slice A len c]) (hb1 : Blk w (B + 1) 5 #[.int .u8 (k : Int)]) (hb2 : Blk w (B + 1 + 1) 3 #[.int .i64 d]) :
    SeqStopsK Fence.wide n Tryz.prog 93 #[.pointer (some ⟨B, 0, none⟩), .pointer (some ⟨B + 1, 0, none⟩), .pointer (some ⟨B + 1 + 1, 0, none⟩)] (fun x : EntW => #[.agg (eCells x.1)]) (Keeps3 n₀ B) (fun ys => ys.map Subtype.val = Pe.onDay l k d) (fun pre => pre.map Subtype.val <+: Pe.onDay l k d) l.length w :=
  fun lp J Jx W hb hJ hJx hY h0 => all_1_in n hn lp n₀ B A len c k d l w0 W hn₀ (hW.trans (hb.mono hW.size)) hL (hb0.below hb hb0.lt) (hb1.below hb hb1.lt) (hb2.below hb hb2.lt) J Jx hJ hJx hY h0
/-- A block of cells abides whatever turns no cells. -/
theorem Blk.own {W W' : World} {g B : Nat} {t : TypeId} {cs : Array Value} {row : Option Nat} (h : Blk W g t cs) (hg : W.grownBy W' row) (hr : ∀ r, row = some r → B ≤ r ∧ ∃ o : Obj, W.heap[r]? = some o ∧ o.isCells = false) : Blk W' g t cs :=
  h.grown hg (fun e => by obtain ⟨_, o, ho, hc⟩ := hr g e.symm; unfold Blk at h; rw [h] at ho; cases ho; cases hc)
theorem below_own {w W W' : World} {n₀ B : Nat} {row : Option Nat} (h : Below n₀ w W) (hn : n₀ ≤ w.heap.size) (hB : n₀ ≤ B) (hg : W.grownBy W' row) (hr : ∀ r, row = some r → B ≤ r ∧ ∃ o : Obj, W.heap[r]? = some o ∧ o.isCells = false) : Below n₀ w W' :=
  ownFrom_below (β := Unit) hn hB () W W' row h hg hr
/-- The blocks that the iterator keeps: three from B on. -/
structure Its (W : World) (B : Nat) (A : Option Addr) (n c k : Nat) (d : Int) : Prop where
  b0 : Blk W B 22 #[.slice A n c]
  b1 : Blk W (B + 1) 5 #[.int .u8 (k : Int)]
  b2 : Blk W (B + 1 + 1) 3 #[.int .i64 d]
theorem Its.new (w : World) (A : Option Addr) (n c k : Nat) (d : Int) : Its (((w.alloc (.cells #[.slice A n c] 22)).alloc (.cells #[.int .u8 (k : Int)] 5)).alloc (.cells #[.int .i64 d] 3)) w.heap.size A n c k d := by
  have h0 := Blk.fresh w 22 #[.slice A n c]
  have h1 := Blk.fresh (w.alloc (.cells #[.slice A n c] 22)) 5 #[.int .u8 (k : Int)]
  have h2 := Blk.fresh ((w.alloc (.cells #[.slice A n c] 22)).alloc (.cells #[.int .u8 (k : Int)] 5)) 3 #[.int .i64 d]
  simp only [World.size_alloc] at h1 h2
  exact ⟨(h0.alloc _).alloc _, h1.alloc _, h2⟩

set_option maxRecDepth 1000000 in
set_option maxHeartbeats 4000000 in
theorem Dead_calls (A : Option Addr) (n c : Nat) (l : List Pe.Ent) (p d : Int) (w : World) (h : EntsAt w A n l) :
    Calls Tryz.prog 36 #[.slice A n c, .int .i64 p, .int .i64 d] w fun e w' => e = .returned (.bool (Pe.dead l p d)) ∧ Below w.heap.size w w' := by
  have H := Lib.hid h
  clear h
  refine (callsIn_wide (n := 5)).1 ?_
  refine callsIn_of_wp_marks Tryz.func36 rfl trivial ?_ rfl
  simp only [Tryz.ntmps36, List.size_toArray, List.length_cons, List.length_nil, Nat.reduceAdd, Nat.reduceSub, Array.replicate_succ, Array.replicate_zero, List.push_toArray, List.append_toArray, List.nil_append, List.cons_append]
  gi_wp2_with fail
  refine ⟨trivial, (callsIn_wide.2 (all_calls A n c 3 d _)).mono ?_⟩
  rintro e w' ⟨rfl, rfl⟩
  obtain ⟨b, hb⟩ : ∃ b, b = w.heap.size := ⟨_, rfl⟩
  have hi := Its.new ((w.alloc (.cells #[.int .i64 p] 3)).alloc (.cells #[.bool false] 4)) A n c 3 d
  have hp := ((((Blk.fresh w 3 #[.int .i64 p]).alloc (.cells #[.bool false] 4)).alloc (.cells #[.slice A n c] 22)).alloc (.cells #[.int .u8 ((3 : Nat) : Int)] 5)).alloc (.cells #[.int .i64 d] 3)
  have hr := (((Blk.fresh (w.alloc (.cells #[.int .i64 p] 3)) 4 #[.bool false]).alloc (.cells #[.slice A n c] 22)).alloc (.cells #[.int .u8 ((3 : Nat) : Int)] 5)).alloc (.cells #[.int .i64 d] 3)
  have hB := (((((Below.refl _ w).alloc (Nat.le_refl _) (.cells #[.int .i64 p] 3)).alloc (by simp) (.cells #[.bool false] 4)).alloc (by simp; omega) (.cells #[.slice A n c] 22)).alloc (by simp; omega) (.cells #[.int .u8 ((3 : Nat) : Int)] 5)).alloc (by simp; omega) (.cells #[.int .i64 d] 3)
  simp only [World.size_alloc] at hi hr
  obtain ⟨W0, hW0⟩ : ∃ W0, (((((w.alloc (.cells #[.int .i64 p] 3)).alloc (.cells #[.bool false] 4)).alloc (.cells #[.slice A n c] 22)).alloc (.cells #[.int .u8 ((3 : Nat) : Int)] 5)).alloc (.cells #[.int .i64 d] 3)) = W0 := ⟨_, rfl⟩
  have hsz : W0.heap.size = w.heap.size + 5 := by rw [← hW0]; simp
  simp only [World.size_alloc]
  rw [hW0] at hi hp hr hB ⊢
  have hh : W0.heap.size = W0.heap.size := rfl
  have HW := Lib.hid (And.intro hi (And.intro hp (And.intro hr (And.intro hB (And.intro hsz hb)))))
  clear hi hp hr hB hW0 hsz hh
  rw [← hb]
  clear hb
  gi_wp2_with fail
  refine wpIn_rangeFunc_ownH rfl (by omega) (gf := 93) (lb := #[.pointer (some ⟨b + 1 + 1, 0, none⟩), .pointer (some ⟨b + 1 + 1 + 1, 0, none⟩), .pointer (some ⟨b + 1 + 1 + 1 + 1, 0, none⟩)]) rfl trivial (enters_of Tryz.func93 (by kernel_rfl) rfl)
    (all_stops 4 (by omega) w.heap.size (b + 1 + 1) A n c 3 d l w W0 rfl HW.out.2.2.2.1 H.out (by rw [HW.out.2.2.2.2.2]; exact HW.out.1.b0) (by rw [HW.out.2.2.2.2.2]; exact HW.out.1.b1) (by rw [HW.out.2.2.2.2.2]; exact HW.out.1.b2)) Keeps3.trans (Keeps3.put (by have := HW.out; omega) (by have := HW.out; omega)) (Below.refl _ _) (fun _ => rfl)
    (fun pre W => (Blk W b 3 #[.int .i64 p] ∧ Blk W (b + 1) 4 #[.bool false] ∧ W0.heap.size ≤ W.heap.size ∧ (pre.map Subtype.val).any (fun x => x.person == p) = false) ∧ Below w.heap.size w W)
    (fun cd pre W => (cd = .ret ∧ Blk W (b + 1) 4 #[.bool true] ∧ (pre.map Subtype.val).any (fun x => x.person == p) = true) ∧ Below w.heap.size w W)
    (fun s X Y row hs hg hr => ⟨⟨hs.1.1.own hg hr, hs.1.2.1.own hg hr, Nat.le_trans hs.1.2.2.1 hg.size, hs.1.2.2.2⟩, below_own hs.2 (Nat.le_refl _) (by have := HW.out; omega) hg hr⟩)
    (fun cd s X Y row hs hg hr => ⟨⟨hs.1.1, hs.1.2.1.own hg hr, hs.1.2.2⟩, below_own hs.2 (Nat.le_refl _) (by have := HW.out; omega) hg hr⟩)
    ⟨⟨by rw [HW.out.2.2.2.2.2]; exact HW.out.2.1, by rw [HW.out.2.2.2.2.2]; exact HW.out.2.2.1, Nat.le_refl _, rfl⟩, HW.out.2.2.2.1⟩
    (fun x a' W => ∃ Bx, W0.heap.size ≤ Bx ∧ Blk W Bx 31 (eCells x.1) ∧ a' = { tmps := #[.slice A n c, .int .i64 p, .int .i64 d, undef, .pointer (some ⟨b, 0, none⟩), undef, .pointer (some ⟨b + 1, 0, none⟩), .pointer (some ⟨Bx, 0, none⟩), .slice A n c, .int .i64 d, .func (.func 93) #[] #[.pointer (some ⟨b + 1 + 1, 0, none⟩), .pointer (some ⟨b + 1 + 1 + 1, 0, none⟩), .pointer (some ⟨b + 1 + 1 + 1 + 1, 0, none⟩)], .agg (eCells x.1), undef, undef, undef, undef], defers := [] })
    (fun x a' _ X Y row hs hg hr => by obtain ⟨Bx, h1, h2, h3⟩ := hs; exact ⟨Bx, h1, h2.own hg hr, h3⟩)
    ?assign ?body ?done ?stop
  case assign =>
    rintro lp pre x W K ⟨⟨h1, h2, h3, h4⟩, h5⟩ hK
    have HA := Lib.hid (And.intro h1 (And.intro h2 (And.intro h3 (And.intro h4 h5))))
    clear h1 h2 h3 h4 h5
    unfold eCells
    gi_wp2
    exact hK _ _ ((KeepsOthers.alloc _ _).from _) (Keeps3.of_below ((Below.refl _ W).alloc (Nat.le_refl _) _)) ⟨⟨HA.out.1.alloc _, HA.out.2.1.alloc _, by simp; have := HA.out.2.2.1; omega, HA.out.2.2.2.1⟩, HA.out.2.2.2.2.alloc HA.out.2.2.2.2.size _⟩ ⟨W.heap.size, HA.out.2.2.1, Blk.fresh W 31 (eCells x.1), rfl⟩
  case body =>
    rintro lp pre x a' W hl ⟨r, hr⟩ ⟨⟨h1, h2, h3, h4⟩, h5⟩ ⟨Bx, hBx, bX, rfl⟩ hlt
    have c0 : W.cell? ⟨b, 0, none⟩ = some (.int .i64 p) := h1.cell 0
    have c1 : W.cell? ⟨b + 1, 0, none⟩ = some (.bool false) := h2.cell 0
    have f1 : W.frozen? ⟨b + 1, 0, none⟩ = false := h2.frozen 0
    have cX : W.cell? ⟨Bx, 4, none⟩ = some (.int .i64 x.1.person) := bX.cell 4
    have HA := Lib.hid (And.intro h1 (And.intro h2 (And.intro h3 (And.intro h4 h5))))
    clear h1 h2 h3 h4 h5 hr
    have hpn : 1 ≤ 5 - 1 - 1 := by omega
    cases q : (x.1.person == p)
    · have HQ := Lib.hid q
      gi_wp2
      exact ⟨KeepsFrom.refl _ _, Keeps3.refl _ _ _, ⟨HA.out.1, HA.out.2.1, HA.out.2.2.1, by rw [List.map_append, List.any_append, HA.out.2.2.2.1]; simp [HQ.out]⟩, HA.out.2.2.2.2⟩
    · have HQ := Lib.hid q
      gi_wp2
      exact ⟨(KeepsOthers.setCell _ _ _).from _, ⟨rfl, HA.out.2.1.put 0 _, by rw [List.map_append, List.any_append]; simp [HQ.out]⟩, HA.out.2.2.2.2.setCell (p := ⟨b + 1, 0, none⟩) (by have := HW.out; simp; omega) _⟩
  case done =>
    rintro D ys W hD hS ⟨⟨h1, h2, h3, h4⟩, h5⟩ hK
    have c1 : W.cell? ⟨b + 1, 0, none⟩ = some (.bool false) := h2.cell 0
    have f1 : W.frozen? ⟨b + 1, 0, none⟩ = false := h2.frozen 0
    have HA := Lib.hid (And.intro h1 (And.intro h2 (And.intro h3 (And.intro h4 (And.intro h5 hS)))))
    clear h1 h2 h3 h4 h5 hS
    gi_wp2
    have hK' := (KeepsOthers.setCell W ⟨b + 1, 0, none⟩ (.bool false)).same D _ hK rfl
    refine ⟨by simp, .inl ⟨_, _, rfl, run_takeDeferred hK', ?_⟩⟩
    have h9 := (HA.out.2.1.put 0 (.bool false)).own (B := 0) (grownBy_putObj' _ D (.deferred none)) (by rintro r e; cases e; exact ⟨Nat.zero_le _, _, hK', rfl⟩)
    have hc5 := h9.cell 0
    refine ⟨.bool false, ?_, ?_, ?_⟩
    · simp [results, Tryz.f36, go_sem, hc5]
    · have : Pe.dead l p d = false := by unfold Pe.dead; rw [← HA.out.2.2.2.2.2]; exact HA.out.2.2.2.1
      rw [this]
    · exact (HA.out.2.2.2.2.1.setCell (p := ⟨b + 1, 0, none⟩) (by have := HW.out; simp; omega) _).trans (belowK_b (w := w) (Nat.le_refl _) _ D _ _ (by have := HW.out; omega) hK' rfl rfl)
  case stop =>
    rintro D cd pre W hD hS ⟨⟨rfl, h2, h4⟩, h5⟩ hK
    have HA := Lib.hid (And.intro h2 (And.intro h4 (And.intro h5 hS)))
    clear h2 h4 h5 hS
    gi_wp2
    refine ⟨by simp, .inl ⟨_, _, rfl, run_takeDeferred hK, ?_⟩⟩
    have h9 := HA.out.1.own (B := 0) (grownBy_putObj' _ D (.deferred none)) (by rintro r e; cases e; exact ⟨Nat.zero_le _, _, hK, rfl⟩)
    have hc5 := h9.cell 0
    refine ⟨.bool true, ?_, ?_, ?_⟩
    · simp [results, Tryz.f36, go_sem, hc5]
    · have : Pe.dead l p d = true := by
        unfold Pe.dead
        obtain ⟨t, ht⟩ := HA.out.2.2.2
        rw [← ht, List.any_append, HA.out.2.1]; rfl
      rw [this]
    · exact HA.out.2.2.1.trans (belowK_b (w := w) (Nat.le_refl _) _ D _ _ (by have := HW.out; omega) hK rfl rfl)

end Go.Proofs.YtnphlekailodkaaGreatDoor
