/-
  Pairs and Lives of the directory.
-/
import Derived.Test.YtnphlekailodkaaGreatDoorCc
import Derived.Test.YtnphlekailodkaaGreatDoorWy
namespace Go.Proofs.YtnphlekailodkaaGreatDoor
open Go.RowKit Go.Shelf

attribute [local go_sem] Oper.semAt_some
theorem infoCandN : (Tryz.prog.info? 28).map (fun i => (i.zero, i.size, i.bytes)) = some (some (.agg #[.int .i64 0, .int .i64 0]), 2, 16) := by kernel_rfl
/-- The dwellings of the living among some entries. -/
def dwl (l : List Pe.Ent) (d : Int) (m : List Pe.Ent) : List Pe.Pair := (m.filter fun x => !Pe.dead l x.person d).map fun x => (x.person, x.place)
theorem dwl_snoc (l : List Pe.Ent) (d : Int) (m : List Pe.Ent) (x : Pe.Ent) : dwl l d (m ++ [x]) = dwl l d m ++ (if Pe.dead l x.person d = true then [] else [(x.person, x.place)]) := by
  unfold dwl
  rw [List.filter_append, List.map_append]
  cases h : Pe.dead l x.person d <;> simp [h]
theorem dwl_le (l : List Pe.Ent) (d : Int) (m : List Pe.Ent) : (dwl l d m).length ≤ m.length := by
  unfold dwl
  rw [List.length_map]
  exact List.length_filter_le _ _

/-- What holds between two rounds of the loop over the dwellings. -/
structure PairI (l : List Pe.Ent) (d : Int) (A : Option Addr) (n c : Nat) (w : World) (b sz : Nat) (m : List Pe.Ent) (W : World) : Prop where
  lb : Blk W b 22 #[.slice A n c]
  db : Blk W (b + 1) 3 #[.int .i64 d]
  ov : ∃ v, Blk W (b + 1 + 1) 46 #[v] ∧ W.ownsRow sz 28 2 v (dwl l d m).length (pRow (dwl l d m))
  sz : sz ≤ W.heap.size
  bel : Below w.heap.size w W
theorem own_own {W W' : World} {base : Nat} {e : TypeId} {size n B : Nat} {v : Value} {xs : List Value} {row : Option Nat} (h : W.ownsRow base e size v n xs) (hg : W.grownBy W' row) (hr : ∀ r, row = some r → B ≤ r ∧ ∃ o : Obj, W.heap[r]? = some o ∧ o.isCells = false) : W'.ownsRow base e size v n xs := by
  refine ⟨h.1, h.2.imp id ?_⟩
  rintro ⟨g, cap, cur, h1, h2, h3, h4⟩
  exact ⟨g, cap, cur, h1, h2, Blk.own (t := e) h3 hg hr, h4⟩
theorem own_below {W W' : World} {base : Nat} {e : TypeId} {size n : Nat} {v : Value} {xs : List Value} (h : W.ownsRow base e size v n xs) (hb : Below W.heap.size W W') : W'.ownsRow base e size v n xs := by
  refine ⟨h.1, h.2.imp id ?_⟩
  rintro ⟨g, cap, cur, h1, h2, h3, h4⟩
  exact ⟨g, cap, cur, h1, h2, Blk.below (t := e) h3 hb (Blk.lt (t := e) h3), h4⟩
section
variable {l : List Pe.Ent} {d : Int} {A : Option Addr} {n c : Nat} {w : World} {b sz : Nat} {m : List Pe.Ent} {W W' : World}
theorem PairI.own {B : Nat} {row : Option Nat} (h : PairI l d A n c w b sz m W) (hw : w.heap.size ≤ B) (hg : W.grownBy W' row) (hr : ∀ r, row = some r → B ≤ r ∧ ∃ o : Obj, W.heap[r]? = some o ∧ o.isCells = false) : PairI l d A n c w b sz m W' :=
  ⟨h.lb.own hg hr, h.db.own hg hr, by obtain ⟨v, h1, h2⟩ := h.ov; exact ⟨v, h1.own hg hr, own_own h2 hg hr⟩, Nat.le_trans h.sz hg.size, below_own h.bel (Nat.le_refl _) hw hg hr⟩
theorem PairI.below (h : PairI l d A n c w b sz m W) (hb : Below W.heap.size W W') : PairI l d A n c w b sz m W' :=
  ⟨h.lb.below hb h.lb.lt, h.db.below hb h.db.lt, by obtain ⟨v, h1, h2⟩ := h.ov; exact ⟨v, h1.below hb h1.lt, own_below h2 hb⟩, Nat.le_trans h.sz hb.size, h.bel.trans (hb.mono h.bel.size)⟩
end

set_option maxRecDepth 1000000 in
set_option maxHeartbeats 8000000 in
theorem Pairs_calls (A : Option Addr) (n c : Nat) (l : List Pe.Ent) (d : Int) (w : World) (h : EntsAt w A n l) (hn : n ≤ 100000) :
    Calls Tryz.prog 30 #[.slice A n c, .int .i64 d] w fun e w' => ∃ v, e = .returned v ∧ w'.ownsRow w.heap.size 28 2 v (Pe.pairs l d).length (pRow (Pe.pairs l d)) ∧ Below w.heap.size w w' := by
  have H := Lib.hid h
  clear h
  obtain ⟨i0, hi0, hz0, hz1, hz2⟩ := info_parts infoCandN
  have HI0 := Lib.hid (And.intro hi0 (And.intro hz0 (And.intro hz1 hz2)))
  clear hi0 hz0 hz1 hz2
  refine (callsIn_wide (n := 5)).1 ?_
  refine callsIn_of_wp_marks Tryz.func30 rfl trivial ?_ rfl
  simp only [Tryz.ntmps30, List.size_toArray, List.length_cons, List.length_nil, Nat.reduceAdd, Nat.reduceSub, Array.replicate_succ, Array.replicate_zero, List.push_toArray, List.append_toArray, List.nil_append, List.cons_append]
  gi_wp2_with fail
  refine ⟨trivial, (callsIn_wide.2 (all_calls A n c 2 d _)).mono ?_⟩
  rintro e w' ⟨rfl, rfl⟩
  obtain ⟨b, hb⟩ : ∃ b, b = w.heap.size := ⟨_, rfl⟩
  obtain ⟨W0, hW0⟩ : ∃ W0, W0 = (((((w.alloc (.cells #[.slice A n c] 22)).alloc (.cells #[.int .i64 d] 3)).alloc (.cells #[.slice none 0 0] 46)).alloc (.cells #[.slice A n c] 22)).alloc (.cells #[.int .u8 ((2 : Nat) : Int)] 5)).alloc (.cells #[.int .i64 d] 3) := ⟨_, rfl⟩
  have hi := Its.new (((w.alloc (.cells #[.slice A n c] 22)).alloc (.cells #[.int .i64 d] 3)).alloc (.cells #[.slice none 0 0] 46)) A n c 2 d
  have hl0 := (((((Blk.fresh w 22 #[.slice A n c]).alloc (.cells #[.int .i64 d] 3)).alloc (.cells #[.slice none 0 0] 46)).alloc (.cells #[.slice A n c] 22)).alloc (.cells #[.int .u8 ((2 : Nat) : Int)] 5)).alloc (.cells #[.int .i64 d] 3)
  have hd0 := ((((Blk.fresh (w.alloc (.cells #[.slice A n c] 22)) 3 #[.int .i64 d]).alloc (.cells #[.slice none 0 0] 46)).alloc (.cells #[.slice A n c] 22)).alloc (.cells #[.int .u8 ((2 : Nat) : Int)] 5)).alloc (.cells #[.int .i64 d] 3)
  have ho0 := (((Blk.fresh ((w.alloc (.cells #[.slice A n c] 22)).alloc (.cells #[.int .i64 d] 3)) 46 #[.slice none 0 0]).alloc (.cells #[.slice A n c] 22)).alloc (.cells #[.int .u8 ((2 : Nat) : Int)] 5)).alloc (.cells #[.int .i64 d] 3)
  have hB0 : Below w.heap.size w W0 := by rw [hW0]; exact ((((((Below.refl _ w).alloc (Nat.le_refl _) _).alloc (by simp) _).alloc (by simp; omega) _).alloc (by simp; omega) _).alloc (by simp; omega) _).alloc (by simp; omega) _
  have hsz : W0.heap.size = w.heap.size + 6 := by rw [hW0]; simp
  simp only [World.size_alloc] at hi hd0 ho0 ⊢
  rw [← hW0] at hi hl0 hd0 ho0 ⊢
  rw [← hb] at hi hl0 hd0 ho0 ⊢
  have HW := Lib.hid (And.intro hi (And.intro (show PairI l d A n c w b W0.heap.size [] W0 from ⟨hl0, hd0, ⟨_, ho0, World.ownsRow_nil _ _ _ _⟩, Nat.le_refl _, hB0⟩) (And.intro hsz hb)))
  clear hi hl0 hd0 ho0 hB0 hW0 hsz hb
  gi_wp2_with fail
  refine wpIn_rangeFunc_ownH rfl (by omega) (gf := 93) (lb := #[.pointer (some ⟨b + 1 + 1 + 1, 0, none⟩), .pointer (some ⟨b + 1 + 1 + 1 + 1, 0, none⟩), .pointer (some ⟨b + 1 + 1 + 1 + 1 + 1, 0, none⟩)]) rfl trivial (enters_of Tryz.func93 (by kernel_rfl) rfl)
    (all_stops 4 (by omega) w.heap.size (b + 1 + 1 + 1) A n c 2 d l w W0 rfl HW.out.2.1.bel H.out HW.out.1.b0 HW.out.1.b1 HW.out.1.b2) Keeps3.trans (Keeps3.put (by have := HW.out; omega) (by have := HW.out; omega)) (Below.refl _ _) (fun _ => rfl)
    (fun pre W => PairI l d A n c w b W0.heap.size (pre.map Subtype.val) W)
    (fun _ _ _ => False)
    (fun _ X Y row hs hg hr => hs.own (by have := HW.out; omega) hg hr)
    (fun _ _ _ _ _ hs _ _ => hs)
    HW.out.2.1
    (fun x a' W => ∃ Bx, W0.heap.size ≤ Bx ∧ Blk W Bx 31 (eCells x.1) ∧ a' = { tmps := #[.slice A n c, .int .i64 d, .pointer (some ⟨b, 0, none⟩), .pointer (some ⟨b + 1, 0, none⟩), .slice none 0 0, .pointer (some ⟨b + 1 + 1, 0, none⟩), .pointer (some ⟨Bx, 0, none⟩), .slice A n c, .int .i64 d, .func (.func 93) #[] #[.pointer (some ⟨b + 1 + 1 + 1, 0, none⟩), .pointer (some ⟨b + 1 + 1 + 1 + 1, 0, none⟩), .pointer (some ⟨b + 1 + 1 + 1 + 1 + 1, 0, none⟩)], .agg (eCells x.1), undef, undef, undef, undef, undef, undef, undef, undef, undef, undef, undef, undef, undef, undef, undef, undef, undef, undef], defers := [] })
    (fun x a' _ X Y row hs hg hr => by obtain ⟨Bx, h1, h2, h3⟩ := hs; exact ⟨Bx, h1, h2.own hg hr, h3⟩)
    ?assign ?body ?done ?stop
  case assign =>
    rintro lp pre x W K hI hK
    have HA := Lib.hid hI
    clear hI
    unfold eCells
    gi_wp2
    exact hK _ _ ((KeepsOthers.alloc _ _).from _) (Keeps3.of_below ((Below.refl _ W).alloc (Nat.le_refl _) _)) (HA.out.below ((Below.refl _ W).alloc (Nat.le_refl _) _)) ⟨W.heap.size, HA.out.sz, Blk.fresh W 31 (eCells x.1), rfl⟩
  case body =>
    rintro lp pre x a' W hl ⟨r, hr⟩ hI ⟨Bx, hBx, bX, rfl⟩ hlt
    have l0 : W.cell? ⟨b, 0, none⟩ = some (.slice A n c) := hI.lb.cell 0
    have d0 : W.cell? ⟨b + 1, 0, none⟩ = some (.int .i64 d) := hI.db.cell 0
    have x4 : W.cell? ⟨Bx, 4, none⟩ = some (.int .i64 x.1.person) := bX.cell 4
    have hdc := CallsIn.inRound lp (callsIn_wide (n := 5 - 1 - 1 - 1).2 (Dead_calls A n c l x.1.person d W (H.out.below hI.bel)))
    obtain ⟨D, hD⟩ : ∃ D, D = dwl l d (pre.map Subtype.val) := ⟨_, rfl⟩
    have hnx : dwl l d ((pre ++ [x]).map Subtype.val) = D ++ (if Pe.dead l x.1.person d = true then [] else [(x.1.person, x.1.place)]) := by
      rw [List.map_append, hD]; exact dwl_snoc l d (pre.map Subtype.val) x.1
    have hDn : D.length ≤ 100000 := by
      have h1 := dwl_le l d (pre.map Subtype.val)
      have h2 := H.out.len
      rw [hD]
      rw [List.length_map] at h1
      omega
    have HA := Lib.hid (And.intro hI (And.intro bX (And.intro hdc (And.intro hD hnx))))
    clear hI bX hr hdc hnx hD
    have hpn : 1 ≤ 5 - 1 - 1 := by omega
    gi_wp2_with fail
    refine ⟨trivial, HA.out.2.2.1.mono ?_⟩
    rintro e w2 ⟨rfl, hb2⟩
    have hI2 := HA.out.1.below hb2
    have bX2 := HA.out.2.1.below hb2 HA.out.2.1.lt
    clear l0 d0 x4
    dsimp only
    cases hd : Pe.dead l x.1.person d
    · have HD := Lib.hid hd
      clear hd
      obtain ⟨v, hvb, hvo⟩ := hI2.ov
      rw [← HA.out.2.2.2.1] at hvo
      have o0 : w2.cell? ⟨b + 1 + 1, 0, none⟩ = some v := hvb.cell 0
      have x4 : w2.cell? ⟨Bx, 4, none⟩ = some (.int .i64 x.1.person) := bX2.cell 4
      have x5 : w2.cell? ⟨Bx, 5, none⟩ = some (.int .i64 x.1.place) := bX2.cell 5
      have HB := Lib.hid (And.intro hI2 (And.intro hb2 (And.intro hvb hvo)))
      clear hI2 hb2 hvb hvo bX2
      have hszW : W0.heap.size ≤ w2.heap.size := HB.out.1.sz
      gi_wp2_with (gi_at_builtin; refine wpListIn_append_own _ rfl _ _ 46 rfl W0.heap.size 28 i0 _ 2 16 Tryz.underlying46 HI0.out.1 HI0.out.2.1 HI0.out.2.2.1 HI0.out.2.2.2 rfl (by decide) v D.length (pRow D) rfl (HB.out.2.2.2.alloc _) ⟨w2.heap.size, 0, none⟩ 1 1 [.int .i64 x.1.person, .int .i64 x.1.place] rfl rfl ?ac1 ?ac2 ?ac3 ?ac4 ?ac5 ?_)
      case ac1 => exact World.news_of_block (cs := #[.int .i64 x.1.person, .int .i64 x.1.place]) (t := 28) (fr := (0, 0)) (heap_alloc_new w2 _)
      case ac2 => intro u hu; simp at hu; rcases hu with rfl | rfl <;> rfl
      case ac3 => simp only [maxLen]; omega
      case ac4 => omega
      case ac5 => simp; omega
      intro v' w7 hown7 hgrow7 _
      obtain ⟨g7, cap7, rfl⟩ := ownsRow_succ hown7
      have hgc : ∀ j (o : Obj), v.ownBlock = some j → (w2.alloc (.cells #[.int .i64 x.1.person, .int .i64 x.1.place] 28)).heap[j]? = some o → o.isCells = true := by
        intro j o ej hj
        rcases (HB.out.2.2.2.alloc (.cells #[.int .i64 x.1.person, .int .i64 x.1.place] 28)).2 with ⟨rfl, _⟩ | ⟨g, cap, cur, rfl, _, hgb, _⟩
        · simp [Value.ownBlock] at ej
        · obtain rfl : g = j := by simpa [Value.ownBlock] using ej
          rw [hgb] at hj; cases hj; rfl
      have hC7 : Chg (fun i => W0.heap.size ≤ i ∨ i = b + 1 + 1) w2 w7 := (((Chg.refl (fun i => W0.heap.size ≤ i ∨ i = b + 1 + 1) w2).alloc (.cells #[.int .i64 x.1.person, .int .i64 x.1.place] 28)).trans (Chg.of_grownBy (fp := fun i => W0.heap.size ≤ i ∨ i = b + 1 + 1) hgrow7 (fun k hk => .inl (.inl (HB.out.2.2.2.lt k hk).1))) (fun i hi => .inl hi))
      have hvb7 : Blk w7 (b + 1 + 1) 46 #[v] := (HB.out.2.2.1.alloc _).grown hgrow7 (fun e => by have := (HB.out.2.2.2.lt _ e.symm).1; have := HW.out; omega)
      have o7 : w7.cell? ⟨b + 1 + 1, 0, none⟩ = some v := hvb7.cell 0
      have f7 := hvb7.frozen 0
      have hC8 := hC7.setCell (p := ⟨b + 1 + 1, 0, none⟩) (.inl (.inr rfl)) (.slice (some ⟨g7, 0, none⟩) (D.length + 1) cap7)
      have hK8 := ((KeepsOthers.alloc w2 (.cells #[.int .i64 x.1.person, .int .i64 x.1.place] 28)).trans (KeepsOthers.of_grownBy hgrow7 hgc)).trans (KeepsOthers.setCell w7 ⟨b + 1 + 1, 0, none⟩ (.slice (some ⟨g7, 0, none⟩) (D.length + 1) cap7))
      have hO8 := ((Chg.refl (fun i => i = b + 1 + 1) w7).setCell (p := ⟨b + 1 + 1, 0, none⟩) (.inl rfl) (.slice (some ⟨g7, 0, none⟩) (D.length + 1) cap7)).own hown7 (fun k hk e => by have := (hown7.lt k hk).1; have := HW.out; omega)
      have H8 := Lib.hid (And.intro hC8 (And.intro hK8 (And.intro hO8 (hvb7.put 0 (.slice (some ⟨g7, 0, none⟩) (D.length + 1) cap7)))))
      clear hC7 hC8 hK8 hO8 hvb7 hown7 hgrow7 hgc
      gi_wp2
      refine ⟨((KeepsOthers.of_below HB.out.2.1).trans H8.out.2.1).from _, (Keeps3.of_below HB.out.2.1).trans (Keeps3.of_chg (fp := fun i => W0.heap.size ≤ i ∨ i = b + 1 + 1) H8.out.1 (fun i hi => by have := HW.out; omega)), ?_⟩
      show PairI l d A n c w b W0.heap.size ((pre ++ [x]).map Subtype.val) _
      refine ⟨H8.out.1.blk HB.out.1.lb (by have := HW.out; omega), H8.out.1.blk HB.out.1.db (by have := HW.out; omega), ⟨_, H8.out.2.2.2, ?_⟩, Nat.le_trans HB.out.1.sz H8.out.1.size, HB.out.1.bel.trans (H8.out.1.below (fun i hi => by have := HW.out; omega) HB.out.1.bel.size)⟩
      rw [HA.out.2.2.2.2, if_neg (by rw [HD.out]; simp), List.length_append, pRow_append]
      exact H8.out.2.2.1
    · have HD := Lib.hid hd
      have HB := Lib.hid (And.intro hI2 hb2)
      clear hd hI2 hb2 bX2
      gi_wp2
      refine ⟨(KeepsOthers.of_below HB.out.2).from _, Keeps3.of_below HB.out.2, ?_⟩
      show PairI l d A n c w b W0.heap.size ((pre ++ [x]).map Subtype.val) w2
      have h9 := HB.out.1
      refine ⟨h9.lb, h9.db, ?_, h9.sz, h9.bel⟩
      rw [HA.out.2.2.2.2, if_pos HD.out, List.append_nil, HA.out.2.2.2.1]
      exact h9.ov
  case done =>
    rintro D ys W hD hS hI hK
    obtain ⟨v, hvb, hvo⟩ := hI.ov
    have hdl : dwl l d (ys.map Subtype.val) = Pe.dwell l d := by rw [hS]; rfl
    rw [hdl] at hvo
    have o0 : W.cell? ⟨b + 1 + 1, 0, none⟩ = some v := hvb.cell 0
    have hdn : (Pe.dwell l d).length ≤ 100000 := by
      have h1 := dwl_le l d (Pe.onDay l 2 d)
      have h2 : (Pe.onDay l 2 d).length ≤ l.length := List.length_filter_le _ _
      have h3 := H.out.len
      have h4 : Pe.dwell l d = dwl l d (Pe.onDay l 2 d) := rfl
      rw [h4]
      omega
    have HA := Lib.hid (And.intro hI (And.intro hvb (And.intro hvo hK)))
    clear hI hvb hvo hK hS hdl
    gi_wp2_with fail
    refine ⟨trivial, (callsIn_wide.2 (SortFunc_calls HA.out.2.2.1 (by omega))).mono ?_⟩
    rintro e w3 ⟨rfl, hs3, hc3⟩
    have hD3 : w3.heap[D]? = some (.deferred (some [])) := (hc3.block D (Array.getElem?_eq_some_iff.1 HA.out.2.2.2).1 (fun e => by
      rcases HA.out.2.2.1.2 with ⟨rfl, _⟩ | ⟨g, cp, cur, rfl, _, hgb, _⟩
      · simp [Value.ownBlock] at e
      · obtain rfl : g = D := by simpa [Value.ownBlock] using e
        rw [HA.out.2.2.2] at hgb; cases hgb)).trans HA.out.2.2.2
    have hvb3 : Blk w3 (b + 1 + 1) 46 #[v] := hc3.blk HA.out.2.1 (fun e => by have := (HA.out.2.2.1.lt _ e).1; have := HW.out; omega)
    have hB3 : Below w.heap.size w w3 := HA.out.1.bel.trans (hc3.below (fun i hi => by have := (HA.out.2.2.1.lt _ hi).1; have := HW.out; omega) HA.out.1.bel.size)
    have o3 : w3.cell? ⟨b + 1 + 1, 0, none⟩ = some v := hvb3.cell 0
    obtain ⟨S, hS⟩ : ∃ S, S = (Pe.dwell l d).mergeSort Pe.leP := ⟨_, rfl⟩
    have hSl : S.length = (Pe.dwell l d).length := by rw [hS, List.length_mergeSort]
    rw [← hS, ← hSl] at hs3
    have hpr : Pe.pairs l d = Pe.compact S := by rw [hS]; rfl
    have H3 := Lib.hid (And.intro hs3 (And.intro hD3 (And.intro hB3 hpr)))
    clear hs3 hc3 hD3 hvb3 hB3 hSl hS hpr o0
    dsimp only
    gi_wp2_with fail
    refine ⟨trivial, (callsIn_wide.2 (Compact_calls H3.out.1)).mono ?_⟩
    rintro e w4 ⟨v4, rfl, hs4, hc4⟩
    have H4 := Lib.hid (And.intro hs4 hc4)
    clear hs4 hc4
    dsimp only
    gi_wp2
    have hD4 : w4.heap[D]? = some (.deferred (some [])) := (H4.out.2.block D (Array.getElem?_eq_some_iff.1 H3.out.2.1).1 (fun e => by
      rcases H3.out.1.2 with ⟨rfl, _⟩ | ⟨g, cp, cur, rfl, _, hgb, _⟩
      · simp [Value.ownBlock] at e
      · obtain rfl : g = D := by simpa [Value.ownBlock] using e
        rw [H3.out.2.1] at hgb; cases hgb)).trans H3.out.2.1
    refine ⟨by simp, .inl ⟨_, _, rfl, run_takeDeferred hD4, ?_⟩⟩
    refine ⟨_, results_tmp rfl _ _ _, v4, rfl, ?_, ?_⟩
    · rw [H3.out.2.2.2]
      exact own_weaken (ownsRow_putObj H4.out.1 _ hD4 rfl) (by have := HW.out; omega)
    · exact (H3.out.2.2.1.trans (H4.out.2.below (fun i hi => by have := (H3.out.1.lt _ hi).1; have := HW.out; omega) H3.out.2.2.1.size)).trans (belowK_b (w := w) (Nat.le_refl _) _ D _ _ (by have := HW.out; omega) hD4 rfl rfl)
  case stop =>
    rintro D jc pre W _ _ h _
    exact h.elim

set_option maxRecDepth 1000000 in
set_option maxHeartbeats 4000000 in
theorem Lives_calls (A : Option Addr) (n c : Nat) (l : List Pe.Ent) (cd : Pe.Pair) (d : Int) (w : World) (h : EntsAt w A n l) (hn : n ≤ 100000) :
    Calls Tryz.prog 25 #[.slice A n c, .agg (pCells cd), .int .i64 d] w fun e w' => e = .returned (.bool (Pe.lives l cd d)) ∧ Below w.heap.size w w' := by
  obtain ⟨V, hV⟩ : ∃ V, V = Pe.lives l cd d := ⟨_, rfl⟩
  rw [← hV]
  have HV := Lib.hid (show (Pe.pairs l d).contains cd = V from hV.symm)
  have H := Lib.hid h
  clear h hV
  go_enter Tryz.func25, Tryz.ntmps25
  unfold pCells
  go_wp2_with fail
  obtain ⟨b, hb⟩ : ∃ b, b = w.heap.size := ⟨_, rfl⟩
  obtain ⟨w1, hw1⟩ : ∃ w1, w1 = w.alloc (.cells (pCells cd) 28) := ⟨_, rfl⟩
  have hB1 : Below w.heap.size w w1 := by rw [hw1]; exact (Below.refl _ w).alloc (Nat.le_refl _) _
  have hc1 : Blk w1 b 28 (pCells cd) := by rw [hw1, hb]; exact Blk.fresh w _ _
  unfold pCells at hw1
  rw [← hb, ← hw1]
  have H1 := Lib.hid (And.intro hB1 hc1)
  clear hB1 hc1 hw1 hb
  refine wp_region_R (RL [(3, fun w' => Blk w' b 28 (pCells cd))]) (by kernel_rfl) (RL_cons (H1.out.2.heap rfl) (RL_nil _)) (fun hp => ?_)
  have hpc := Pairs_calls A n c l d w1.drew ((H.out.below H1.out.1).below (below_drewN w1 1)) hn
  have HP := Lib.hid hpc
  clear hpc
  refine wpAnyR_take (i := 0) (oi := ⟨some 7, _, _, _, _, _⟩) (v := ?_) rfl (by kernel_rfl) (by kernel_rfl) (by kernel_rfl) (fun _ _ _ h => h) hp (.inl ⟨by rfl, fun w _ => ?_⟩) (fun hq => ?_)
  rotate_left
  · go_simp
    with_reducible rfl
  clear hp; have hp := hq; clear hq
  try simp only [Act.put, List.setIfInBounds_toArray, List.set_cons_zero, List.set_cons_succ]
  refine wpAnyR_take (i := 1) (oi := ⟨some 8, _, _, _, _, _⟩) (v := ?_) rfl (by kernel_rfl) (by kernel_rfl) (by kernel_rfl) (fun _ _ _ h => h) hp (.inl ⟨by rfl, fun w _ => ?_⟩) (fun hq => ?_)
  rotate_left
  · go_simp
    with_reducible rfl
  clear hp; have hp := hq; clear hq
  try simp only [Act.put, List.setIfInBounds_toArray, List.set_cons_zero, List.set_cons_succ]
  refine wpAnyR_take (i := 3) (oi := ⟨some 10, _, _, _, _, _⟩) (v := ?_) rfl (by kernel_rfl) (by kernel_rfl) (by kernel_rfl) (fun _ _ _ h => h) hp (.inl ⟨by rfl, fun w hR => ?_⟩) (fun hq => ?_)
  rotate_left
  · have hR := hR.1 rfl
    (try dsimp only at hR)
    have h0 : w.cell? ⟨b, 0, none⟩ = some (.int .i64 cd.1) := hR.cell 0
    have h1 : w.cell? ⟨b, 1, none⟩ = some (.int .i64 cd.2) := hR.cell 1
    clear hR
    go_simp
    with_reducible rfl
  clear hp; have hp := hq; clear hq
  try simp only [Act.put, List.setIfInBounds_toArray, List.set_cons_zero, List.set_cons_succ]
  refine wpAnyR_step (i := 2) (o := ⟨some 9, _, _, _, _, _⟩) (by kernel_rfl) rfl (by rfl) (fun K hK => ?_) -- Op.call { callee := Callee.value (Operand.func 30), args := #[Operand.tmp 7, Operand.tmp 8], argTypes := #[22,
  go_simp
  refine HP.out.mono ?_
  rintro e w3 ⟨v3, rfl, hs3, hb3⟩
  show K _ _
  have hS3 : Blk w3 b 28 (pCells cd) := H1.out.2.drew.below hb3 H1.out.2.lt
  have hB3 : Below w.heap.size w w3 := H1.out.1.drew.trans (hb3.mono H1.out.1.size)
  have H3 := Lib.hid (And.intro hs3 hB3)
  clear hs3 hb3 hB3
  refine hK _ _ (pend_on hS3 pend_nil) (fun hq => ?_)
  clear hp hK K; have hp := hq; clear hq
  try simp only [Act.put, List.setIfInBounds_toArray, List.set_cons_zero, List.set_cons_succ]
  refine wpAnyR_step (i := 4) (o := ⟨some 11, _, _, _, _, _⟩) (by kernel_rfl) rfl (by rfl) (fun K hK => ?_) -- Op.call { callee := Callee.value (Operand.func 61), args := #[Operand.tmp 9, Operand.tmp 10], argTypes := #[46
  go_simp
  have hcc := Contains_calls cd H3.out.1
  rw [HV.out] at hcc
  unfold pCells at hcc
  refine hcc.mono ?_
  clear hcc
  rintro e w4 ⟨rfl, hb4⟩
  show K _ _
  have H4 := Lib.hid hb4
  clear hb4
  refine hK _ _ (pend_off (by kernel_rfl) pend_nil) (fun hq => ?_)
  clear hp hK K; have hp := hq; clear hq
  try simp only [Act.put, List.setIfInBounds_toArray, List.set_cons_zero, List.set_cons_succ]
  refine wpAnyR_take (i := 5) (oi := ⟨some 6, _, _, _, _, _⟩) (v := ?_) rfl (by kernel_rfl) (by kernel_rfl) (by kernel_rfl) (fun _ _ _ h => h) hp (.inl ⟨by rfl, fun w _ => ?_⟩) (fun hq => ?_)
  rotate_left
  · go_simp
    with_reducible rfl
  clear hp; have hp := hq; clear hq
  try simp only [Act.put, List.setIfInBounds_toArray, List.set_cons_zero, List.set_cons_succ]
  refine wpAnyR_done (by kernel_rfl) ?_ _
  clear hp
  all_goals
    go_wp2
    go_ret
    exact ⟨rfl, H3.out.2.trans (H4.out.mono H3.out.2.size)⟩

end Go.Proofs.YtnphlekailodkaaGreatDoor
