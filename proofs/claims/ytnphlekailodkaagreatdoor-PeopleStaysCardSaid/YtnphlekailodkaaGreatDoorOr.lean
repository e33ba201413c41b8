/-
  Order of the directory.
-/
import Derived.Test.YtnphlekailodkaaGreatDoorPq
import Derived.Test.YtnphlekailodkaaGreatDoorRf
namespace Go.Proofs.YtnphlekailodkaaGreatDoor
open Go.RowKit Go.Shelf

attribute [local go_sem] Oper.semAt_some
theorem eCells_zero : eCells Pe.zero = #[.int .i64 0, .int .u8 0, .int .i64 0, .int .i64 0, .int .i64 0, .int .i64 0, .int .i64 0, .int .i64 0, .int .i64 0, .string ⟨#[]⟩] := rfl
theorem SetAt.own {P : Program} {ki kb : TypeId} {W W' : World} {b n B : Nat} {S : Int → Bool} {row : Option Nat} (h : SetAt P ki kb W b n S) (hb : b < B) (hg : W.grownBy W' row) (hr : ∀ r, row = some r → B ≤ r ∧ ∃ o : Obj, W.heap[r]? = some o ∧ o.isCells = false) : SetAt P ki kb W' b n S :=
  h.kept hg (fun e => by have := (hr b e.symm).1; omega)

theorem Keeps3.of_grown {n₀ B : Nat} {W W' : World} {row : Option Nat} (h : W.grownBy W' row) (hf : ∀ i, row = some i → n₀ ≤ i ∧ (i < B ∨ B + 3 ≤ i)) : Keeps3 n₀ B W W' := fun k _ hk ho =>
  (h.block k (Array.getElem?_eq_some_iff.1 ho).1 (fun e => by have := hf k e.symm; omega)).trans ho

/-- What holds between two rounds of the loop over the orders. -/
structure OrdI (l : List Pe.Ent) (d : Int) (A : Option Addr) (n c : Nat) (cd : Pe.Pair) (w : World) (b m e D k sz : Nat) (r : Option Pe.Ent) (W : World) : Prop where
  set : ISet W m k (fun o => Pe.cancelled l o d)
  mb : Blk W (m + 1) 169 #[.map (some m)]
  lb : Blk W b 22 #[.slice A n c]
  cb : Blk W (b + 1) 28 (pCells cd)
  db : Blk W (b + 1 + 1) 3 #[.int .i64 d]
  rb : Blk W (b + 1 + 1 + 1) 31 (eCells Pe.zero)
  eb : Blk W e 31 (eCells (r.getD Pe.zero))
  ob : Blk W (e + 1) 4 #[.bool r.isSome]
  sz : sz ≤ W.heap.size
  dfr : W.heap[D]? = some (.deferred (some []))
  bel : Below w.heap.size w W
section
variable {l : List Pe.Ent} {d : Int} {A : Option Addr} {n c : Nat} {cd : Pe.Pair} {w : World} {b m e D k sz : Nat} {r : Option Pe.Ent} {W W' : World}
theorem OrdI.own {B : Nat} {row : Option Nat} (h : OrdI l d A n c cd w b m e D k sz r W) (hm : m < B) (hD : D < B) (hw : w.heap.size ≤ B) (hg : W.grownBy W' row) (hr : ∀ r, row = some r → B ≤ r ∧ ∃ o : Obj, W.heap[r]? = some o ∧ o.isCells = false) : OrdI l d A n c cd w b m e D k sz r W' :=
  ⟨h.set.own hm hg hr, h.mb.own hg hr, h.lb.own hg hr, h.cb.own hg hr, h.db.own hg hr, h.rb.own hg hr, h.eb.own hg hr, h.ob.own hg hr, Nat.le_trans h.sz hg.size,
    (hg.block D (Array.getElem?_eq_some_iff.1 h.dfr).1 (fun e => by have := (hr D e.symm).1; omega)).trans h.dfr, below_own h.bel (Nat.le_refl _) hw hg hr⟩
theorem OrdI.below (h : OrdI l d A n c cd w b m e D k sz r W) (hb : Below W.heap.size W W') : OrdI l d A n c cd w b m e D k sz r W' :=
  ⟨h.set.of_heap (hb.block _ h.set.lt), h.mb.below hb h.mb.lt, h.lb.below hb h.lb.lt, h.cb.below hb h.cb.lt, h.db.below hb h.db.lt, h.rb.below hb h.rb.lt, h.eb.below hb h.eb.lt, h.ob.below hb h.ob.lt, Nat.le_trans h.sz hb.size,
    (hb.block D (Array.getElem?_eq_some_iff.1 h.dfr).1).trans h.dfr, h.bel.trans (hb.mono h.bel.size)⟩
theorem OrdI.ne (h : OrdI l d A n c cd w b m e D k sz r W) : D ≠ e ∧ D ≠ e + 1 := by
  constructor
  · intro e1
    have h1 := h.dfr
    have h2 := h.eb
    unfold Blk at h2
    rw [e1, h2] at h1
    cases h1
  · intro e1
    have h1 := h.dfr
    have h2 := h.ob
    unfold Blk at h2
    rw [e1, h2] at h1
    cases h1
theorem OrdI.best {W7 : World} {x : Pe.Ent} (h : OrdI l d A n c cd w b m e D k sz r W) (hb : Blk W7 e 31 (eCells x)) (hc : Chg (fun i => i = e) W W7) (h1 : b + 1 + 1 + 1 < m) (h2 : m + 1 < e) (hw : w.heap.size ≤ e) : OrdI l d A n c cd w b m e D k sz (some x) (W7.setCell ⟨e + 1, 0, none⟩ (.bool true)) := by
  have hne := h.ne
  have hB : ∀ {g : Nat} {t : TypeId} {cs : Array Value}, Blk W g t cs → g ≠ e → g ≠ e + 1 → Blk (W7.setCell ⟨e + 1, 0, none⟩ (.bool true)) g t cs := fun hg ha hb' => (hc.blk hg ha).far hb' _
  have hC : Chg (fun i => i = e ∨ i = e + 1) W (W7.setCell ⟨e + 1, 0, none⟩ (.bool true)) := (hc.mono (fun i _ hi => .inl hi)).setCell (p := ⟨e + 1, 0, none⟩) (.inl (.inr rfl)) _
  refine ⟨h.set.of_heap (hC.block m h.set.lt (by omega)), hB h.mb (by omega) (by omega), hB h.lb (by omega) (by omega), hB h.cb (by omega) (by omega), hB h.db (by omega) (by omega), hB h.rb (by omega) (by omega), hb.far (by simp) _, (hc.blk h.ob (by simp)).put 0 _, Nat.le_trans h.sz hC.size, (hC.block D (Array.getElem?_eq_some_iff.1 h.dfr).1 (by omega)).trans h.dfr, h.bel.trans (hC.below (fun i hi => by omega) h.bel.size)⟩
end
theorem best_snoc (q : Pe.Ent → Bool) (m : List Pe.Ent) (x : Pe.Ent) : Pe.bestOf q none (m ++ [x]) = if q x = true then Pe.better (Pe.bestOf q none m) x else Pe.bestOf q none m := by
  unfold Pe.bestOf
  rw [List.foldl_append]; rfl
theorem suits_eq (l : List Pe.Ent) (cd : Pe.Pair) (d : Int) (x : Pe.Ent) : Pe.suits l cd d x = (!(x.person != cd.1) && (!(x.place != 0) || !(x.place != cd.2)) && !Pe.cancelled l x.order d && !((Pe.target l x d).2 && decide ((Pe.target l x d).1 = cd))) := by
  unfold Pe.suits
  have e : ∀ t : Pe.Pair × Bool, (t == (cd, true)) = (t.2 && decide (t.1 = cd)) := by
    rintro ⟨p, f⟩
    rw [Bool.eq_iff_iff]
    cases f <;> simp
  rw [e]
  simp [bne]
theorem better_set {y x : Pe.Ent} (h : x.place ≠ 0 ∨ y.place = 0) : Pe.better (some y) x = some x := if_pos h
theorem better_keep {y x : Pe.Ent} (h : ¬ (x.place ≠ 0 ∨ y.place = 0)) : Pe.better (some y) x = some y := if_neg h
theorem KeepsOthers.of_below {W W' : World} (h : Below W.heap.size W W') : KeepsOthers W W' := ⟨h.size, fun k _ hk _ => (h.block k (Array.getElem?_eq_some_iff.1 hk).1).trans hk⟩

set_option maxRecDepth 1000000 in
set_option maxHeartbeats 8000000 in
theorem Order_calls (A : Option Addr) (n c : Nat) (l : List Pe.Ent) (cd : Pe.Pair) (d : Int) (w : World) (h : EntsAt w A n l) :
    Calls Tryz.prog 113 #[.slice A n c, .agg (pCells cd), .int .i64 d] w fun e w' => e = .returned (.tuple #[.agg (eCells ((Pe.order? l cd d).getD Pe.zero)), .bool (Pe.order? l cd d).isSome]) ∧ Below w.heap.size w w' := by
  have H := Lib.hid h
  have hmm := @run_makeMap Tryz.prog
  clear h
  refine (callsIn_wide (n := 5)).1 ?_
  refine callsIn_of_wp_marks Tryz.func113 rfl trivial ?_ rfl
  simp only [Tryz.ntmps113, List.size_toArray, List.length_cons, List.length_nil, Nat.reduceAdd, Nat.reduceSub, Array.replicate_succ, Array.replicate_zero, List.push_toArray, List.append_toArray, List.nil_append, List.cons_append]
  unfold pCells
  gi_wp2_with fail
  obtain ⟨b, hb⟩ : ∃ b, b = w.heap.size := ⟨_, rfl⟩
  obtain ⟨w1, hw1⟩ : ∃ w1, w1 = (((w.alloc (.cells #[.slice A n c] 22)).alloc (.cells (pCells cd) 28)).alloc (.cells #[.int .i64 d] 3)).alloc (.cells (eCells Pe.zero) 31) := ⟨_, rfl⟩
  have hB1 : Below w.heap.size w w1 := by rw [hw1]; exact ((((Below.refl _ w).alloc (Nat.le_refl _) _).alloc (by simp) _).alloc (by simp; omega) _).alloc (by simp; omega) _
  have hl1 : Blk w1 b 22 #[.slice A n c] := by rw [hw1, hb]; exact (((Blk.fresh w _ _).alloc _).alloc _).alloc _
  have hc1 : Blk w1 (b + 1) 28 (pCells cd) := by rw [hw1, hb]; have := ((Blk.fresh (w.alloc (.cells #[.slice A n c] 22)) 28 (pCells cd)).alloc (.cells #[.int .i64 d] 3)).alloc (.cells (eCells Pe.zero) 31); simpa using this
  have hd1 : Blk w1 (b + 1 + 1) 3 #[.int .i64 d] := by rw [hw1, hb]; have := (Blk.fresh ((w.alloc (.cells #[.slice A n c] 22)).alloc (.cells (pCells cd) 28)) 3 #[.int .i64 d]).alloc (.cells (eCells Pe.zero) 31); simpa using this
  have hr1 : Blk w1 (b + 1 + 1 + 1) 31 (eCells Pe.zero) := by rw [hw1, hb]; have := Blk.fresh (((w.alloc (.cells #[.slice A n c] 22)).alloc (.cells (pCells cd) 28)).alloc (.cells #[.int .i64 d] 3)) 31 (eCells Pe.zero); simpa using this
  rw [eCells_zero] at hw1
  unfold pCells at hw1
  rw [← hb, ← hw1]
  have H1 := Lib.hid (And.intro hB1 (And.intro hl1 (And.intro hc1 (And.intro hd1 (And.intro hr1 hb)))))
  have l0 : w1.cell? ⟨b, 0, none⟩ = some (.slice A n c) := hl1.cell 0
  have k0 : w1.cell? ⟨b + 1, 0, none⟩ = some (.int .i64 cd.1) := hc1.cell 0
  have d0 : w1.cell? ⟨b + 1 + 1, 0, none⟩ = some (.int .i64 d) := hd1.cell 0
  clear hB1 hl1 hc1 hd1 hr1 hw1 hb
  refine ⟨trivial, (callsIn_wide.2 (Dead_calls A n c l cd.1 d w1 (H.out.below H1.out.1))).mono ?_⟩
  rintro e w2 ⟨rfl, hb2⟩
  have H2 := Lib.hid (And.intro (H1.out.1.trans (hb2.mono H1.out.1.size)) (And.intro (H1.out.2.1.below hb2 H1.out.2.1.lt) (And.intro (H1.out.2.2.1.below hb2 H1.out.2.2.1.lt) (And.intro (H1.out.2.2.2.1.below hb2 H1.out.2.2.2.1.lt) (H1.out.2.2.2.2.1.below hb2 H1.out.2.2.2.2.1.lt)))))
  clear hb2 l0 k0 d0
  have l0 : w2.cell? ⟨b, 0, none⟩ = some (.slice A n c) := H2.out.2.1.cell 0
  have d0 : w2.cell? ⟨b + 1 + 1, 0, none⟩ = some (.int .i64 d) := H2.out.2.2.2.1.cell 0
  dsimp only
  cases hd : Pe.dead l cd.1 d
  case true =>
    have HD := Lib.hid hd
    clear hd
    gi_wp2_with ((refine wpListIn_store_row (op := ⟨none, .store 31 (.tmp 6) (.tmp 20), _, _, _, _⟩) rfl 31 (.tmp 6) (.tmp 20) rfl (b + 1 + 1 + 1) (eCells Pe.zero) #[.int .i64 0, .int .u8 0, .int .i64 0, .int .i64 0, .int .i64 0, .int .i64 0, .int .i64 0, .int .i64 0, .int .i64 0, .string ⟨#[]⟩] H2.out.2.2.2.2 rfl infoEntryN (oneCell_ent Pe.zero) rfl rfl ?_); intro w3 hB3 hC3 _)
    have hz : Pe.order? l cd d = none := by unfold Pe.order?; rw [if_pos HD.out]
    refine ⟨_, results_row2 (P := Tryz.prog) (fn := Tryz.f113) rfl _ _ (b + 1 + 1 + 1) (eCells Pe.zero) _ rfl hB3 Tryz.underlying31 rfl infoEntryN, ?_, ?_⟩
    · rw [hz]; rfl
    · exact H2.out.1.trans (hC3.below (fun i hi => by have := H1.out.2.2.2.2.2; omega) H2.out.1.size)
  have HD := Lib.hid hd
  clear hd
  have lt0 : b < w2.heap.size := World.block_lt_of_cell? w2 _ l0
  have lt2 : b + 1 + 1 < w2.heap.size := World.block_lt_of_cell? w2 _ d0
  have lt1 : b + 1 < w2.heap.size := by omega
  gi_wp2_with fail
  refine ⟨trivial, (callsIn_wide.2 (all_calls A n c 6 d _)).mono ?_⟩
  rintro e w' ⟨rfl, rfl⟩
  obtain ⟨m, hm⟩ : ∃ m, m = w2.heap.size := ⟨_, rfl⟩
  obtain ⟨W0, hW0⟩ : ∃ W0, W0 = ((((w2.alloc (.map #[] 0)).alloc (.cells #[.map (some w2.heap.size)] 169)).alloc (.cells #[.slice A n c] 22)).alloc (.cells #[.int .u8 ((6 : Nat) : Int)] 5)).alloc (.cells #[.int .i64 d] 3) := ⟨_, rfl⟩
  have hi := Its.new ((w2.alloc (.map #[] 0)).alloc (.cells #[.map (some w2.heap.size)] 169)) A n c 6 d
  have hst := ((((SetAt.made (P := Tryz.prog) (ki := 3) (kb := 4) w2).alloc (.cells #[.map (some w2.heap.size)] 169)).alloc (.cells #[.slice A n c] 22)).alloc (.cells #[.int .u8 ((6 : Nat) : Int)] 5)).alloc (.cells #[.int .i64 d] 3)
  have hmb := (((Blk.fresh (w2.alloc (.map #[] 0)) 169 #[.map (some w2.heap.size)]).alloc (.cells #[.slice A n c] 22)).alloc (.cells #[.int .u8 ((6 : Nat) : Int)] 5)).alloc (.cells #[.int .i64 d] 3)
  have hB0 : Below w2.heap.size w2 W0 := by rw [hW0]; exact (((((Below.refl _ w2).alloc (Nat.le_refl _) _).alloc (by simp) _).alloc (by simp; omega) _).alloc (by simp; omega) _).alloc (by simp; omega) _
  have hsz : W0.heap.size = w2.heap.size + 5 := by rw [hW0]; simp
  simp only [World.size_alloc] at hi hmb ⊢
  rw [← hW0] at hi hst hmb ⊢
  rw [← hm] at hi hst hmb hsz ⊢
  clear lt0 lt1 lt2
  have HW := Lib.hid (And.intro hi (And.intro hst (And.intro hmb (And.intro (H2.out.1.trans (hB0.mono H2.out.1.size)) (And.intro hsz (And.intro hm (And.intro (H2.out.2.1.below hB0 H2.out.2.1.lt) (And.intro (H2.out.2.2.1.below hB0 H2.out.2.2.1.lt) (And.intro (H2.out.2.2.2.1.below hB0 H2.out.2.2.2.1.lt) (H2.out.2.2.2.2.below hB0 H2.out.2.2.2.2.lt))))))))))
  have hlow : w.heap.size ≤ b := by have := H1.out.2.2.2.2.2; omega
  have hbm : b + 1 + 1 + 1 < m := by rw [hm]; exact H2.out.2.2.2.2.lt
  clear hi hst hmb hB0 hW0 hsz hm l0 d0
  gi_wp2_with fail
  refine wpIn_rangeFunc_ownH rfl (by omega) (gf := 93) (lb := #[.pointer (some ⟨m + 1 + 1, 0, none⟩), .pointer (some ⟨m + 1 + 1 + 1, 0, none⟩), .pointer (some ⟨m + 1 + 1 + 1 + 1, 0, none⟩)]) rfl trivial (enters_of Tryz.func93 (by kernel_rfl) rfl)
    (all_stops 4 (by omega) w.heap.size (m + 1 + 1) A n c 6 d l w W0 rfl HW.out.2.2.2.1 H.out HW.out.1.b0 HW.out.1.b1 HW.out.1.b2) Keeps3.trans (Keeps3.put (by have := HW.out; omega) (by have := HW.out; omega)) (Below.refl _ _) (fun _ => rfl)
    (fun pre W => ((ISet W m pre.length (fun o => (pre.map Subtype.val).any fun x => x.order == o) ∧ Blk W (m + 1) 169 #[.map (some m)]) ∧ (Blk W b 22 #[.slice A n c] ∧ Blk W (b + 1) 28 (pCells cd) ∧ Blk W (b + 1 + 1) 3 #[.int .i64 d] ∧ Blk W (b + 1 + 1 + 1) 31 (eCells Pe.zero)) ∧ W0.heap.size ≤ W.heap.size) ∧ Below w.heap.size w W)
    (fun _ _ _ => False)
    (fun _ X Y row hs hg hr => ⟨⟨⟨hs.1.1.1.own (by have := HW.out; omega) hg hr, hs.1.1.2.own hg hr⟩, ⟨hs.1.2.1.1.own hg hr, hs.1.2.1.2.1.own hg hr, hs.1.2.1.2.2.1.own hg hr, hs.1.2.1.2.2.2.own hg hr⟩, Nat.le_trans hs.1.2.2 hg.size⟩, below_own hs.2 (Nat.le_refl _) (by have := HW.out; omega) hg hr⟩)
    (fun _ _ _ _ _ hs _ _ => hs)
    ⟨⟨⟨HW.out.2.1, HW.out.2.2.1⟩, HW.out.2.2.2.2.2.2, Nat.le_refl _⟩, HW.out.2.2.2.1⟩
    (fun x a' W => ∃ Bx, W0.heap.size ≤ Bx ∧ Blk W Bx 31 (eCells x.1) ∧ a' = { tmps := #[.slice A n c, .agg (pCells cd), .int .i64 d, .pointer (some ⟨b, 0, none⟩), .pointer (some ⟨b + 1, 0, none⟩), .pointer (some ⟨b + 1 + 1, 0, none⟩), .pointer (some ⟨b + 1 + 1 + 1, 0, none⟩), .bool false, .pointer (some ⟨m + 1, 0, none⟩), .pointer (some ⟨Bx, 0, none⟩), undef, undef, undef, undef, undef, .slice A n c, .pointer (some ⟨b + 1, 0, none⟩), .int .i64 cd.1, .int .i64 d, .bool false, undef, .map (some m), .slice A n c, .int .i64 d, .func (.func 93) #[] #[.pointer (some ⟨m + 1 + 1, 0, none⟩), .pointer (some ⟨m + 1 + 1 + 1, 0, none⟩), .pointer (some ⟨m + 1 + 1 + 1 + 1, 0, none⟩)], .agg (eCells x.1), undef, undef, undef, undef, undef, undef, undef, undef, undef, undef, undef, undef, undef, undef, undef, undef, undef, undef, undef, undef, undef, undef, undef, undef, undef, undef, undef, undef, undef, undef, undef, undef, undef, undef, undef, undef, undef, undef, undef, undef, undef, undef, undef, undef, undef, undef, undef, undef, undef, undef, undef, undef, undef, undef, undef, undef, undef, undef], defers := [] })
    (fun x a' _ X Y row hs hg hr => by obtain ⟨Bx, h1, h2, h3⟩ := hs; exact ⟨Bx, h1, h2.own hg hr, h3⟩)
    ?assign ?body ?done ?stop
  case assign =>
    rintro lp pre x W K hI hK
    have HA := Lib.hid hI
    clear hI
    unfold eCells
    gi_wp2
    refine hK _ _ ((KeepsOthers.alloc _ _).from _) (Keeps3.of_below ((Below.refl _ W).alloc (Nat.le_refl _) _)) ⟨⟨⟨HA.out.1.1.1.alloc _, HA.out.1.1.2.alloc _⟩, ⟨HA.out.1.2.1.1.alloc _, HA.out.1.2.1.2.1.alloc _, HA.out.1.2.1.2.2.1.alloc _, HA.out.1.2.1.2.2.2.alloc _⟩, by simp; have := HA.out.1.2.2; omega⟩, HA.out.2.alloc HA.out.2.size _⟩ ⟨W.heap.size, HA.out.1.2.2, Blk.fresh W 31 (eCells x.1), rfl⟩
  case body =>
    rintro lp pre x a' W hl ⟨r, hr⟩ hI ⟨Bx, hBx, bX, rfl⟩ hlt
    have c0 : W.cell? ⟨m + 1, 0, none⟩ = some (.map (some m)) := hI.1.1.2.cell 0
    have x8 : W.cell? ⟨Bx, 8, none⟩ = some (.int .i64 x.1.order) := bX.cell 8
    have HA := Lib.hid hI
    clear hI hr bX
    have hpn : 1 ≤ 5 - 1 - 1 := by omega
    have hpl : pre.length < maxLen := by have h1 := H.out.most; have h2 := H.out.len; simp only [maxLen]; omega
    have hmW : m < W0.heap.size := by have := HW.out; omega
    gi_wp2_with (refine wpListIn_store_set W (o := ⟨none, .mapUpdate 169 (.tmp 26) (.tmp 28) (.const (.bool true)), _, _, _, _⟩) rfl (.tmp 26) (.tmp 28) (.const (.bool true)) rfl Tryz.underlying3 Tryz.underlying4 Tryz.underlying169 m pre.length _ rfl HA.out.1.1.1 hpl x.1.order rfl rfl x.2.order ?_; intro w4 hS4 hg4)
    refine ⟨KeepsFrom.of_grownBy hg4 (fun j e => by cases e; exact hmW), Keeps3.of_grown hg4 (fun i e => by cases e; omega), ⟨⟨⟨?_, ?_⟩, ⟨?_, ?_, ?_, ?_⟩, ?_⟩, ?_⟩⟩
    · refine (hS4.mono (by simp)).congr (fun z => ?_)
      rw [List.map_append, List.any_append]
      have e : (z == x.1.order) = (x.1.order == z) := by rw [Bool.eq_iff_iff, beq_iff_eq, beq_iff_eq]; exact eq_comm
      rw [e, Bool.or_comm]; simp
    · exact HA.out.1.1.2.grown hg4 (by simp)
    · exact HA.out.1.2.1.1.grown hg4 (by simp; omega)
    · exact HA.out.1.2.1.2.1.grown hg4 (by simp; omega)
    · exact HA.out.1.2.1.2.2.1.grown hg4 (by simp; omega)
    · exact HA.out.1.2.1.2.2.2.grown hg4 (by simp; omega)
    · exact Nat.le_trans HA.out.1.2.2 hg4.size
    · exact HA.out.2.grown hg4 HA.out.2.size (fun k e => by cases e; omega)
  case done =>
    rintro D ys W hD hS hI hK
    have hst : ISet W m ys.length (fun o => Pe.cancelled l o d) := hI.1.1.1.congr (fun o => by rw [hS]; rfl)
    have l0 : W.cell? ⟨b, 0, none⟩ = some (.slice A n c) := hI.1.2.1.1.cell 0
    have d0 : W.cell? ⟨b + 1 + 1, 0, none⟩ = some (.int .i64 d) := hI.1.2.1.2.2.1.cell 0
    have lt0 : b < W.heap.size := World.block_lt_of_cell? W _ l0
    have lt2 : b + 1 + 1 < W.heap.size := World.block_lt_of_cell? W _ d0
    have lt1 : b + 1 < W.heap.size := by omega
    have HA := Lib.hid (And.intro hI (And.intro hst hK))
    clear hI hst hK hS
    gi_wp2_with fail
    refine ⟨trivial, (callsIn_wide.2 (all_calls A n c 5 d _)).mono ?_⟩
    rintro e w' ⟨rfl, rfl⟩
    obtain ⟨e, he⟩ : ∃ e, e = W.heap.size := ⟨_, rfl⟩
    obtain ⟨W1, hW1⟩ : ∃ W1, W1 = ((((W.alloc (.cells (eCells Pe.zero) 31)).alloc (.cells #[.bool false] 4)).alloc (.cells #[.slice A n c] 22)).alloc (.cells #[.int .u8 ((5 : Nat) : Int)] 5)).alloc (.cells #[.int .i64 d] 3) := ⟨_, rfl⟩
    have hi := Its.new ((W.alloc (.cells (eCells Pe.zero) 31)).alloc (.cells #[.bool false] 4)) A n c 5 d
    have heb := ((((Blk.fresh W 31 (eCells Pe.zero)).alloc (.cells #[.bool false] 4)).alloc (.cells #[.slice A n c] 22)).alloc (.cells #[.int .u8 ((5 : Nat) : Int)] 5)).alloc (.cells #[.int .i64 d] 3)
    have hob := (((Blk.fresh (W.alloc (.cells (eCells Pe.zero) 31)) 4 #[.bool false]).alloc (.cells #[.slice A n c] 22)).alloc (.cells #[.int .u8 ((5 : Nat) : Int)] 5)).alloc (.cells #[.int .i64 d] 3)
    have hB1 : Below W.heap.size W W1 := by rw [hW1]; exact (((((Below.refl _ W).alloc (Nat.le_refl _) _).alloc (by simp) _).alloc (by simp; omega) _).alloc (by simp; omega) _).alloc (by simp; omega) _
    have hsz : W1.heap.size = W.heap.size + 5 := by rw [hW1]; simp
    simp only [World.size_alloc] at hi hob ⊢
    rw [← hW1] at hi heb hob
    rw [eCells_zero] at hW1
    rw [← hW1]
    have hOI : OrdI l d A n c cd w b m e D ys.length W1.heap.size none W1 :=
      ⟨HA.out.2.1.of_heap (hB1.block _ HA.out.2.1.lt), HA.out.1.1.1.2.below hB1 HA.out.1.1.1.2.lt, HA.out.1.1.2.1.1.below hB1 HA.out.1.1.2.1.1.lt, HA.out.1.1.2.1.2.1.below hB1 HA.out.1.1.2.1.2.1.lt, HA.out.1.1.2.1.2.2.1.below hB1 HA.out.1.1.2.1.2.2.1.lt, HA.out.1.1.2.1.2.2.2.below hB1 HA.out.1.1.2.1.2.2.2.lt, by rw [he]; exact heb, by rw [he]; exact hob, Nat.le_refl _, (hB1.block D (Array.getElem?_eq_some_iff.1 HA.out.2.2).1).trans HA.out.2.2, HA.out.1.2.trans (hB1.mono HA.out.1.2.size)⟩
    rw [← he] at hi hsz ⊢
    have hme : m + 1 < e := by rw [he]; exact HA.out.1.1.1.2.lt
    have hDe : D < e := by rw [he]; exact (Array.getElem?_eq_some_iff.1 HA.out.2.2).1
    have hDw : w.heap.size ≤ D := by have := HW.out; have := H2.out.1.size; omega
    have HX := Lib.hid (And.intro hi (And.intro hOI (And.intro hsz (And.intro hDe hDw))))
    clear hi hOI hsz hDe hDw heb hob hB1 hW1 l0 d0 lt0 lt1 lt2 he HA hD
    gi_wp2_with fail
    refine wpIn_rangeFunc_ownH rfl (by omega) (gf := 93) (lb := #[.pointer (some ⟨e + 1 + 1, 0, none⟩), .pointer (some ⟨e + 1 + 1 + 1, 0, none⟩), .pointer (some ⟨e + 1 + 1 + 1 + 1, 0, none⟩)]) rfl trivial (enters_of Tryz.func93 (by kernel_rfl) rfl)
      (all_stops 4 (by omega) w.heap.size (e + 1 + 1) A n c 5 d l w W1 rfl HX.out.2.1.bel H.out HX.out.1.b0 HX.out.1.b1 HX.out.1.b2) Keeps3.trans (Keeps3.put (by have := HX.out; omega) (by have := HX.out; omega)) (Below.refl _ _) (fun _ => rfl)
      (fun pre W => OrdI l d A n c cd w b m e D ys.length W1.heap.size (Pe.bestOf (Pe.suits l cd d) none (pre.map Subtype.val)) W)
      (fun _ _ _ => False)
      (fun _ X Y row hs hg hr => hs.own (by have := HX.out; omega) (by have := HX.out; omega) (by have := HX.out; omega) hg hr)
      (fun _ _ _ _ _ hs _ _ => hs)
      HX.out.2.1
      (fun x a' W => ∃ Bx, W1.heap.size ≤ Bx ∧ Blk W Bx 31 (eCells x.1) ∧ a' = { tmps := #[.slice A n c, .agg (pCells cd), .int .i64 d, .pointer (some ⟨b, 0, none⟩), .pointer (some ⟨b + 1, 0, none⟩), .pointer (some ⟨b + 1 + 1, 0, none⟩), .pointer (some ⟨b + 1 + 1 + 1, 0, none⟩), .bool false, .pointer (some ⟨m + 1, 0, none⟩), undef, .pointer (some ⟨e, 0, none⟩), .pointer (some ⟨e + 1, 0, none⟩), .pointer (some ⟨Bx, 0, none⟩), undef, undef, .slice A n c, .pointer (some ⟨b + 1, 0, none⟩), .int .i64 cd.1, .int .i64 d, .bool false, undef, .map (some m), .slice A n c, .int .i64 d, .func (.func 93) #[] #[.pointer (some ⟨m + 1 + 1, 0, none⟩), .pointer (some ⟨m + 1 + 1 + 1, 0, none⟩), .pointer (some ⟨m + 1 + 1 + 1 + 1, 0, none⟩)], undef, undef, undef, undef, .slice A n c, .int .i64 d, .func (.func 93) #[] #[.pointer (some ⟨e + 1 + 1, 0, none⟩), .pointer (some ⟨e + 1 + 1 + 1, 0, none⟩), .pointer (some ⟨e + 1 + 1 + 1 + 1, 0, none⟩)], .agg (eCells x.1), undef, undef, undef, undef, undef, undef, undef, undef, undef, undef, undef, undef, undef, undef, undef, undef, undef, undef, undef, undef, undef, undef, undef, undef, undef, undef, undef, undef, undef, undef, undef, undef, undef, undef, undef, undef, undef, undef, undef, undef, undef, undef, undef, undef, undef, undef, undef, undef, undef, undef, undef], defers := [] })
      (fun x a' _ X Y row hs hg hr => by obtain ⟨Bx, h1, h2, h3⟩ := hs; exact ⟨Bx, h1, h2.own hg hr, h3⟩)
      ?assign2 ?body2 ?done2 ?stop2
    case assign2 =>
      rintro lp pre x W K hI hK
      have HA := Lib.hid hI
      clear hI
      unfold eCells
      gi_wp2
      exact hK _ _ ((KeepsOthers.alloc _ _).from _) (Keeps3.of_below ((Below.refl _ W).alloc (Nat.le_refl _) _)) (HA.out.below ((Below.refl _ W).alloc (Nat.le_refl _) _)) ⟨W.heap.size, HA.out.sz, Blk.fresh W 31 (eCells x.1), rfl⟩
    case body2 =>
      rintro lp pre x a' W3 hl ⟨rr, hrr⟩ hI ⟨Bx, hBx, bX, rfl⟩ hlt
      obtain ⟨r, hr⟩ : ∃ r, r = Pe.bestOf (Pe.suits l cd d) none (pre.map Subtype.val) := ⟨_, rfl⟩
      have hnx : Pe.bestOf (Pe.suits l cd d) none ((pre ++ [x]).map Subtype.val) = if Pe.suits l cd d x.1 = true then Pe.better r x.1 else r := by rw [List.map_append, hr]; exact best_snoc _ _ _
      rw [← hr] at hI
      have hskip : Pe.suits l cd d x.1 = false → OrdI l d A n c cd w b m e D ys.length W1.heap.size (Pe.bestOf (Pe.suits l cd d) none ((pre ++ [x]).map Subtype.val)) W3 := fun h => by rw [hnx, if_neg (by simp [h])]; exact hI
      have lk : (Instr.lookup 169 (.map (some m)) (.int .i64 x.1.order) false).run Tryz.prog W3 = .ok (.bool (Pe.cancelled l x.1.order d)) W3 := ISet.look hI.set _ x.2.order
      have hse := suits_eq l cd d x.1
      have l0 : W3.cell? ⟨b, 0, none⟩ = some (.slice A n c) := hI.lb.cell 0
      have k0 : W3.cell? ⟨b + 1, 0, none⟩ = some (.int .i64 cd.1) := hI.cb.cell 0
      have k1 : W3.cell? ⟨b + 1, 1, none⟩ = some (.int .i64 cd.2) := hI.cb.cell 1
      have d0 : W3.cell? ⟨b + 1 + 1, 0, none⟩ = some (.int .i64 d) := hI.db.cell 0
      have m0 : W3.cell? ⟨m + 1, 0, none⟩ = some (.map (some m)) := hI.mb.cell 0
      have x0 : W3.cell? ⟨Bx, 0, none⟩ = some (.int .i64 x.1.day) := bX.cell 0
      have x1 : W3.cell? ⟨Bx, 1, none⟩ = some (.int .u8 (x.1.kind : Int)) := bX.cell 1
      have x2 : W3.cell? ⟨Bx, 2, none⟩ = some (.int .i64 x.1.since) := bX.cell 2
      have x3 : W3.cell? ⟨Bx, 3, none⟩ = some (.int .i64 x.1.til) := bX.cell 3
      have x4 : W3.cell? ⟨Bx, 4, none⟩ = some (.int .i64 x.1.person) := bX.cell 4
      have x5 : W3.cell? ⟨Bx, 5, none⟩ = some (.int .i64 x.1.place) := bX.cell 5
      have x6 : W3.cell? ⟨Bx, 6, none⟩ = some (.int .i64 x.1.other) := bX.cell 6
      have x7 : W3.cell? ⟨Bx, 7, none⟩ = some (.int .i64 x.1.at_) := bX.cell 7
      have x8 : W3.cell? ⟨Bx, 8, none⟩ = some (.int .i64 x.1.order) := bX.cell 8
      have x9 : W3.cell? ⟨Bx, 9, none⟩ = some (.string (bs x.1.name)) := bX.cell 9
      have HA := Lib.hid (And.intro hI (And.intro hskip (And.intro hse (And.intro hr (And.intro hnx bX)))))
      clear hI hskip hse hr hnx hrr bX
      have hpn : 1 ≤ 5 - 1 - 1 := by omega
      cases q1 : (x.1.person != cd.1)
      case true =>
        have HQ := Lib.hid q1
        gi_wp2
        exact ⟨KeepsFrom.refl _ _, Keeps3.refl _ _ _, HA.out.2.1 (by rw [HA.out.2.2.1, HQ.out]; rfl)⟩
      obtain ⟨q2, h2⟩ : ∃ q2, (x.1.place != 0) = q2 := ⟨_, rfl⟩
      obtain ⟨q3, h3⟩ : ∃ q3, (x.1.place != cd.2) = q3 := ⟨_, rfl⟩
      by_cases h23 : q2 = true ∧ q3 = true
      · obtain ⟨rfl, rfl⟩ := h23
        have HQ := Lib.hid (And.intro q1 (And.intro h2 h3))
        gi_wp2
        exact ⟨KeepsFrom.refl _ _, Keeps3.refl _ _ _, HA.out.2.1 (by rw [HA.out.2.2.1, HQ.out.1, HQ.out.2.1, HQ.out.2.2]; rfl)⟩
      cases q4 : Pe.cancelled l x.1.order d
      case true =>
        rw [q4] at lk
        have hp : q2 = false ∨ (q2 = true ∧ q3 = false) := by cases q2 <;> cases q3 <;> simp_all
        rcases hp with rfl | ⟨rfl, rfl⟩
        all_goals
          have HQ := Lib.hid (And.intro q1 (And.intro q4 h23))
          clear h23 q4
          gi_wp2
          exact ⟨KeepsFrom.refl _ _, Keeps3.refl _ _ _, HA.out.2.1 (by rw [HA.out.2.2.1, HQ.out.2.1]; simp)⟩
      rw [q4] at lk
      obtain ⟨T, hT⟩ : ∃ T, T = Pe.target l x.1 d := ⟨_, rfl⟩
      have hse2 : Pe.suits l cd d x.1 = !(T.2 && decide (T.1 = cd)) := by
        rw [HA.out.2.2.1, q1, q4, h2, h3, ← hT]
        have : (!q2 || !q3) = true := by cases q2 <;> cases q3 <;> simp_all
        rw [this]; rfl
      have htc : CallsIn (Fence.wide.inRound lp) (5 - 1 - 1 - 1) Tryz.prog 67 #[.slice A n c, .agg (eCells x.1), .int .i64 d] W3 fun e w' => e = .returned (.tuple #[.agg (pCells T.1), .bool T.2]) ∧ Below W3.heap.size W3 w' := by
        rw [hT]
        exact CallsIn.inRound lp (callsIn_wide.2 (target_calls A n c l x.1 d W3 (H.out.below HA.out.1.bel)))
      unfold eCells at htc
      have HT := Lib.hid (And.intro htc (And.intro hse2 q4))
      clear htc hse2 hT
      have hp : q2 = false ∨ (q2 = true ∧ q3 = false) := by cases q2 <;> cases q3 <;> simp_all
      clear h23 q4
      rcases hp with rfl | ⟨rfl, rfl⟩
      all_goals
        gi_wp2_with fail
        refine ⟨trivial, HT.out.1.mono ?_⟩
        rintro e1 w5 ⟨rfl, hb5⟩
        obtain ⟨Tp, sb⟩ := T
        have hI5 := HA.out.1.below hb5
        have bX5 := HA.out.2.2.2.2.2.below hb5 HA.out.2.2.2.2.2.lt
        clear l0 k0 k1 d0 m0 lk
        clear x0 x1 x2 x3 x4 x5 x6 x7 x8 x9
        have x0 : w5.cell? ⟨Bx, 0, none⟩ = some (.int .i64 x.1.day) := bX5.cell 0
        have x1 : w5.cell? ⟨Bx, 1, none⟩ = some (.int .u8 (x.1.kind : Int)) := bX5.cell 1
        have x2 : w5.cell? ⟨Bx, 2, none⟩ = some (.int .i64 x.1.since) := bX5.cell 2
        have x3 : w5.cell? ⟨Bx, 3, none⟩ = some (.int .i64 x.1.til) := bX5.cell 3
        have x4 : w5.cell? ⟨Bx, 4, none⟩ = some (.int .i64 x.1.person) := bX5.cell 4
        have x5 : w5.cell? ⟨Bx, 5, none⟩ = some (.int .i64 x.1.place) := bX5.cell 5
        have x6 : w5.cell? ⟨Bx, 6, none⟩ = some (.int .i64 x.1.other) := bX5.cell 6
        have x7 : w5.cell? ⟨Bx, 7, none⟩ = some (.int .i64 x.1.at_) := bX5.cell 7
        have x8 : w5.cell? ⟨Bx, 8, none⟩ = some (.int .i64 x.1.order) := bX5.cell 8
        have x9 : w5.cell? ⟨Bx, 9, none⟩ = some (.string (bs x.1.name)) := bX5.cell 9
        have k0 : w5.cell? ⟨b + 1, 0, none⟩ = some (.int .i64 cd.1) := hI5.cb.cell 0
        have k1 : w5.cell? ⟨b + 1, 1, none⟩ = some (.int .i64 cd.2) := hI5.cb.cell 1
        have lt1 : b + 1 < w5.heap.size := hI5.cb.lt
        have lt2 : Bx < w5.heap.size := bX5.lt
        have lt3 : e < w5.heap.size := hI5.eb.lt
        have lt4 : e + 1 < w5.heap.size := hI5.ob.lt
        have b56 : Below W3.heap.size W3 (w5.alloc (.cells #[.int .i64 Tp.1, .int .i64 Tp.2] 28)) := hb5.alloc hb5.size _
        have HB := Lib.hid (And.intro hI5 (And.intro bX5 (And.intro b56 HT.out.2.1)))
        clear hI5 bX5 hb5 b56
        have hq : ∀ w0, (binOp .eql 28 (.agg #[.int .i64 Tp.1, .int .i64 Tp.2]) (.agg #[.int .i64 cd.1, .int .i64 cd.2])).run Tryz.prog w0 = .ok (.bool (decide (Tp = cd))) w0 := fun w0 => eql_pair Tp cd w0
        have hde : (sb = true ∧ decide (Tp = cd) = true) ∨ (sb = false ∨ (sb = true ∧ decide (Tp = cd) = false)) := by cases sb <;> cases decide (Tp = cd) <;> simp
        unfold pCells
        dsimp only
        rcases hde with ⟨rfl, hde⟩ | hde
        · rw [hde] at hq
          have HD2 := Lib.hid hde
          clear hde
          gi_wp2
          exact ⟨(KeepsOthers.of_below HB.out.2.2.1).from _, Keeps3.of_below HB.out.2.2.1, (show OrdI l d A n c cd w b m e D ys.length W1.heap.size (Pe.bestOf (Pe.suits l cd d) none ((pre ++ [x]).map Subtype.val)) _ by rw [HA.out.2.2.2.2.1, if_neg (by rw [HB.out.2.2.2, HD2.out]; simp)]; exact HA.out.1.below HB.out.2.2.1)⟩
        have hsu : Pe.suits l cd d x.1 = true := by
          rw [HB.out.2.2.2]
          rcases hde with rfl | ⟨rfl, h⟩
          · rfl
          · rw [h]; rfl
        have HS := Lib.hid hsu
        clear hsu
        have hI6 := HA.out.1.below HB.out.2.2.1
        cases r with
        | none =>
          have o0 : w5.cell? ⟨e + 1, 0, none⟩ = some (.bool false) := HB.out.1.ob.cell 0
          have HI6 := Lib.hid hI6
          clear hI6
          have hq2 : sb = false ∨ (sb = true ∧ ∀ w0, (binOp .eql 28 (.agg #[.int .i64 Tp.1, .int .i64 Tp.2]) (.agg #[.int .i64 cd.1, .int .i64 cd.2])).run Tryz.prog w0 = .ok (.bool false) w0) := hde.imp id (fun h => ⟨h.1, fun w0 => by rw [hq w0, h.2]⟩)
          clear hq hde
          rcases hq2 with rfl | ⟨rfl, hq⟩
          all_goals
            gi_wp2_with ((with_reducible refine wpListIn_store_ent (op := ⟨none, _, _, _, _, _⟩) _ x.1 rfl (.tmp 10) (.tmp 81) rfl e HI6.out.eb rfl rfl ?_); intro w7 hB7 hC7 hK7; have o7 := ((hC7.blk HI6.out.ob (by simp)).cell 0); have f7 := ((hC7.blk HI6.out.ob (by simp)).frozen 0); have H7 := Lib.hid (And.intro hB7 (And.intro hC7 hK7)); clear hB7 hC7 hK7)
            refine ⟨(((KeepsOthers.of_below HB.out.2.2.1).trans H7.out.2.2).trans (KeepsOthers.setCell _ _ _)).from _, ((Keeps3.of_below HB.out.2.2.1).trans (Keeps3.of_chg H7.out.2.1 (fun i hi => by omega))).trans (Keeps3.of_chg ((Chg.refl (fun i => i = e + 1) w7).setCell (p := ⟨e + 1, 0, none⟩) (.inl rfl) (.bool true)) (fun i hi => by omega)), ?_⟩
            show OrdI l d A n c cd w b m e D ys.length W1.heap.size (Pe.bestOf (Pe.suits l cd d) none ((pre ++ [x]).map Subtype.val)) _
            rw [HA.out.2.2.2.2.1, if_pos HS.out, show Pe.better none x.1 = some x.1 from rfl]
            exact HI6.out.best H7.out.1 H7.out.2.1 hbm hme (by omega)
        | some y =>
          have o0 : w5.cell? ⟨e + 1, 0, none⟩ = some (.bool true) := HB.out.1.ob.cell 0
          have e5 : w5.cell? ⟨e, 5, none⟩ = some (.int .i64 y.place) := HB.out.1.eb.cell 5
          have HI6 := Lib.hid hI6
          have H2' := Lib.hid h2
          clear hI6
          have hq2 : sb = false ∨ (sb = true ∧ ∀ w0, (binOp .eql 28 (.agg #[.int .i64 Tp.1, .int .i64 Tp.2]) (.agg #[.int .i64 cd.1, .int .i64 cd.2])).run Tryz.prog w0 = .ok (.bool false) w0) := hde.imp id (fun h => ⟨h.1, fun w0 => by rw [hq w0, h.2]⟩)
          clear hq hde
          cases q6 : (y.place == 0)
          · have HQ := Lib.hid q6
            rcases Decidable.em (x.1.place = 0) with hk | hk
            · have HK := Lib.hid hk
              clear hk
              try (exfalso; have h9 := H2'.out; rw [HK.out] at h9; exact absurd h9 (by decide))
              all_goals
                rcases hq2 with rfl | ⟨rfl, hq⟩
              all_goals
                gi_wp2
                refine ⟨(KeepsOthers.of_below HB.out.2.2.1).from _, Keeps3.of_below HB.out.2.2.1, ?_⟩
                show OrdI l d A n c cd w b m e D ys.length W1.heap.size (Pe.bestOf (Pe.suits l cd d) none ((pre ++ [x]).map Subtype.val)) _
                rw [HA.out.2.2.2.2.1, if_pos HS.out, better_keep (by rintro (h | h); exact h HK.out; have := HQ.out; rw [h] at this; exact absurd this (by decide))]
                exact HI6.out
            · have HK := Lib.hid hk
              clear hk
              try (exfalso; have h9 := H2'.out; exact HK.out (by simpa using h9))
              all_goals
                rcases hq2 with rfl | ⟨rfl, hq⟩
              all_goals
                gi_wp2_with ((with_reducible refine wpListIn_store_ent (op := ⟨none, _, _, _, _, _⟩) _ x.1 rfl (.tmp 10) (.tmp 81) rfl e HI6.out.eb rfl rfl ?_); intro w7 hB7 hC7 hK7; have o7 := ((hC7.blk HI6.out.ob (by simp)).cell 0); have f7 := ((hC7.blk HI6.out.ob (by simp)).frozen 0); have H7 := Lib.hid (And.intro hB7 (And.intro hC7 hK7)); clear hB7 hC7 hK7)
                refine ⟨(((KeepsOthers.of_below HB.out.2.2.1).trans H7.out.2.2).trans (KeepsOthers.setCell _ _ _)).from _, ((Keeps3.of_below HB.out.2.2.1).trans (Keeps3.of_chg H7.out.2.1 (fun i hi => by omega))).trans (Keeps3.of_chg ((Chg.refl (fun i => i = e + 1) w7).setCell (p := ⟨e + 1, 0, none⟩) (.inl rfl) (.bool true)) (fun i hi => by omega)), ?_⟩
                show OrdI l d A n c cd w b m e D ys.length W1.heap.size (Pe.bestOf (Pe.suits l cd d) none ((pre ++ [x]).map Subtype.val)) _
                rw [HA.out.2.2.2.2.1, if_pos HS.out, better_set (.inl HK.out)]
                exact HI6.out.best H7.out.1 H7.out.2.1 hbm hme (by omega)
          · have HQ := Lib.hid q6
            rcases hq2 with rfl | ⟨rfl, hq⟩
            all_goals
              gi_wp2_with ((with_reducible refine wpListIn_store_ent (op := ⟨none, _, _, _, _, _⟩) _ x.1 rfl (.tmp 10) (.tmp 81) rfl e HI6.out.eb rfl rfl ?_); intro w7 hB7 hC7 hK7; have o7 := ((hC7.blk HI6.out.ob (by simp)).cell 0); have f7 := ((hC7.blk HI6.out.ob (by simp)).frozen 0); have H7 := Lib.hid (And.intro hB7 (And.intro hC7 hK7)); clear hB7 hC7 hK7)
              refine ⟨(((KeepsOthers.of_below HB.out.2.2.1).trans H7.out.2.2).trans (KeepsOthers.setCell _ _ _)).from _, ((Keeps3.of_below HB.out.2.2.1).trans (Keeps3.of_chg H7.out.2.1 (fun i hi => by omega))).trans (Keeps3.of_chg ((Chg.refl (fun i => i = e + 1) w7).setCell (p := ⟨e + 1, 0, none⟩) (.inl rfl) (.bool true)) (fun i hi => by omega)), ?_⟩
              show OrdI l d A n c cd w b m e D ys.length W1.heap.size (Pe.bestOf (Pe.suits l cd d) none ((pre ++ [x]).map Subtype.val)) _
              rw [HA.out.2.2.2.2.1, if_pos HS.out, better_set (.inr (by have := HQ.out; simpa using this))]
              exact HI6.out.best H7.out.1 H7.out.2.1 hbm hme (by omega)
    case done2 =>
      rintro D2 zs W2 hD2 hS hI hK2
      obtain ⟨r, hr⟩ : ∃ r, r = Pe.bestOf (Pe.suits l cd d) none (zs.map Subtype.val) := ⟨_, rfl⟩
      have hor : Pe.order? l cd d = r := by unfold Pe.order?; rw [HD.out, if_neg (by simp), ← hS, hr]
      rw [← hr] at hI
      obtain ⟨z, hz⟩ : ∃ z, z = r.getD Pe.zero := ⟨_, rfl⟩
      obtain ⟨o, ho⟩ : ∃ o, o = r.isSome := ⟨_, rfl⟩
      have heb := hI.eb
      have hob := hI.ob
      rw [← hz] at heb
      rw [← ho] at hob
      have e0 : W2.cell? ⟨e, 0, none⟩ = some (.int .i64 z.day) := heb.cell 0
      have e1 : W2.cell? ⟨e, 1, none⟩ = some (.int .u8 (z.kind : Int)) := heb.cell 1
      have e2 : W2.cell? ⟨e, 2, none⟩ = some (.int .i64 z.since) := heb.cell 2
      have e3 : W2.cell? ⟨e, 3, none⟩ = some (.int .i64 z.til) := heb.cell 3
      have e4 : W2.cell? ⟨e, 4, none⟩ = some (.int .i64 z.person) := heb.cell 4
      have e5 : W2.cell? ⟨e, 5, none⟩ = some (.int .i64 z.place) := heb.cell 5
      have e6 : W2.cell? ⟨e, 6, none⟩ = some (.int .i64 z.other) := heb.cell 6
      have e7 : W2.cell? ⟨e, 7, none⟩ = some (.int .i64 z.at_) := heb.cell 7
      have e8 : W2.cell? ⟨e, 8, none⟩ = some (.int .i64 z.order) := heb.cell 8
      have e9 : W2.cell? ⟨e, 9, none⟩ = some (.string (bs z.name)) := heb.cell 9
      have o0 : W2.cell? ⟨e + 1, 0, none⟩ = some (.bool o) := hob.cell 0
      have HA := Lib.hid (And.intro hI (And.intro hor (And.intro hz (And.intro ho (And.intro hK2 heb)))))
      clear hI hor hz ho hK2 hr hS hob heb
      have hrb : Blk W2 (b + 1 + 1 + 1) 31 #[.int .i64 0, .int .u8 0, .int .i64 0, .int .i64 0, .int .i64 0, .int .i64 0, .int .i64 0, .int .i64 0, .int .i64 0, .string ⟨#[]⟩] := HA.out.1.rb
      have z0 : W2.cell? ⟨b + 1 + 1 + 1, 0, none⟩ = some (.int .i64 0) := hrb.cell 0
      have z1 : W2.cell? ⟨b + 1 + 1 + 1, 1, none⟩ = some (.int .u8 0) := hrb.cell 1
      have z2 : W2.cell? ⟨b + 1 + 1 + 1, 2, none⟩ = some (.int .i64 0) := hrb.cell 2
      have z3 : W2.cell? ⟨b + 1 + 1 + 1, 3, none⟩ = some (.int .i64 0) := hrb.cell 3
      have z4 : W2.cell? ⟨b + 1 + 1 + 1, 4, none⟩ = some (.int .i64 0) := hrb.cell 4
      have z5 : W2.cell? ⟨b + 1 + 1 + 1, 5, none⟩ = some (.int .i64 0) := hrb.cell 5
      have z6 : W2.cell? ⟨b + 1 + 1 + 1, 6, none⟩ = some (.int .i64 0) := hrb.cell 6
      have z7 : W2.cell? ⟨b + 1 + 1 + 1, 7, none⟩ = some (.int .i64 0) := hrb.cell 7
      have z8 : W2.cell? ⟨b + 1 + 1 + 1, 8, none⟩ = some (.int .i64 0) := hrb.cell 8
      have z9 : W2.cell? ⟨b + 1 + 1 + 1, 9, none⟩ = some (.string ⟨#[]⟩) := hrb.cell 9
      have g0 := hrb.frozen 0
      have g1 := hrb.frozen 1
      have g2 := hrb.frozen 2
      have g3 := hrb.frozen 3
      have g4 := hrb.frozen 4
      have g5 := hrb.frozen 5
      have g6 := hrb.frozen 6
      have g7 := hrb.frozen 7
      have g8 := hrb.frozen 8
      have g9 := hrb.frozen 9
      have HR := Lib.hid hrb
      clear hrb
      gi_wp2_with fail
      gi_region
      all_goals gi_wp2
      all_goals
        obtain ⟨hrb3, hC⟩ := HR.out.put10 (v0 := .int .i64 z.day) (v1 := .int .u8 (z.kind : Int)) (v2 := .int .i64 z.since) (v3 := .int .i64 z.til) (v4 := .int .i64 z.person) (v5 := .int .i64 z.place) (v6 := .int .i64 z.other) (v7 := .int .i64 z.at_) (v8 := .int .i64 z.order) (v9 := .string (bs z.name))
        obtain ⟨W3, hW3⟩ : ∃ W3, W3 = (((((((((W2.setCell ⟨b + 1 + 1 + 1, 0, none⟩ (.int .i64 z.day)).setCell ⟨b + 1 + 1 + 1, 1, none⟩ (.int .u8 (z.kind : Int))).setCell ⟨b + 1 + 1 + 1, 2, none⟩ (.int .i64 z.since)).setCell ⟨b + 1 + 1 + 1, 3, none⟩ (.int .i64 z.til)).setCell ⟨b + 1 + 1 + 1, 4, none⟩ (.int .i64 z.person)).setCell ⟨b + 1 + 1 + 1, 5, none⟩ (.int .i64 z.place)).setCell ⟨b + 1 + 1 + 1, 6, none⟩ (.int .i64 z.other)).setCell ⟨b + 1 + 1 + 1, 7, none⟩ (.int .i64 z.at_)).setCell ⟨b + 1 + 1 + 1, 8, none⟩ (.int .i64 z.order)).setCell ⟨b + 1 + 1 + 1, 9, none⟩ (.string (bs z.name)) := ⟨_, rfl⟩
        rw [← hW3] at hrb3 hC ⊢
        clear hW3
        have hrb4 : Blk W3.drew (b + 1 + 1 + 1) 31 (eCells z) := hrb3
        have hK2 : W3.drew.heap[D2]? = some (.deferred (some [])) := (hC.block D2 (Array.getElem?_eq_some_iff.1 HA.out.2.2.2.2.1).1 (by have := HX.out; omega)).trans HA.out.2.2.2.2.1
        have hK1 : (W3.drew.putObj D2 (.deferred none)).heap[D]? = some (.deferred (some [])) := by
          have h1 : W3.drew.heap[D]? = some (.deferred (some [])) := (hC.block D (Array.getElem?_eq_some_iff.1 HA.out.1.dfr).1 (by
            intro e1
            have h2 := HA.out.1.dfr
            have h3 := HR.out
            unfold Blk at h3
            rw [e1, h3] at h2
            cases h2)).trans HA.out.1.dfr
          exact ((grownBy_putObj' W3.drew D2 (.deferred none)).block D (Array.getElem?_eq_some_iff.1 h1).1 (fun e1 => by injection e1 with e1; have := HX.out; omega)).trans h1
        refine ⟨by simp, .inl ⟨_, _, rfl, run_takeDeferred hK2, ⟨by simp, .inl ⟨_, _, rfl, run_takeDeferred hK1, ?_⟩⟩⟩⟩
        have hrb5 := (hrb4.own (B := 0) (grownBy_putObj' _ D2 (.deferred none)) (by rintro r e; cases e; exact ⟨Nat.zero_le _, _, hK2, rfl⟩)).own (B := 0) (grownBy_putObj' _ D (.deferred none)) (by rintro r e; cases e; exact ⟨Nat.zero_le _, _, hK1, rfl⟩)
        refine ⟨_, results_row2 (P := Tryz.prog) (fn := Tryz.f113) rfl _ _ (b + 1 + 1 + 1) (eCells z) _ rfl hrb5 Tryz.underlying31 rfl infoEntryN, ?_, ?_⟩
        · rw [HA.out.2.1, ← HA.out.2.2.1, ← HA.out.2.2.2.1]; rfl
        · refine Below.trans (Below.trans (HA.out.1.bel.trans (hC.below (fun i hi => by omega) HA.out.1.bel.size).drew) (belowK_b (w := w) (Nat.le_refl _) _ D2 _ _ (by have := HX.out; omega) hK2 rfl rfl)) (belowK_b (w := w) (Nat.le_refl _) _ D _ _ HX.out.2.2.2.2 hK1 rfl rfl)
    case stop2 =>
      rintro D jc pre W _ _ h _
      exact h.elim
  case stop =>
    rintro D jc pre W _ _ h _
    exact h.elim

end Go.Proofs.YtnphlekailodkaaGreatDoor
