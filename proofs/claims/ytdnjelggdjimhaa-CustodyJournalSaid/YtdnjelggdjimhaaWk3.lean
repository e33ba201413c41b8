/-
  The walks of NewDisk and Flush.
-/
import Derived.Test.YtdnjelggdjimhaaWk2
import Derived.Deep.LoopGhost
namespace Go.Proofs.Ytdnjelggdjimhaa
open Go.RowKit

theorem secs_zero (n : Nat) : secs (List.replicate n Dk.zsec) = zeros (n * 64) := by
  induction n with
  | zero => rfl
  | succ n ih =>
    have e : secs (List.replicate (n + 1) Dk.zsec) = bvs Dk.zsec ++ secs (List.replicate n Dk.zsec) := rfl
    rw [e, ih, show bvs Dk.zsec = zeros 64 from by simp only [bvs, Dk.zsec, List.map_replicate]; rfl]
    unfold zeros
    rw [List.replicate_append_replicate, show 64 + n * 64 = (n + 1) * 64 from by omega]
theorem rep_get (v : Value) (m j : Nat) (h : j < m) : (List.replicate m v).toArray[j]! = v := by
  rw [getElem!_pos _ _ (by simpa using h)]; simp
theorem madeZeros (n : Nat) : madeCells (zeros 64).toArray n = (zeros n).toArray := by
  apply Array.ext_getElem?
  intro i
  unfold madeCells zeros
  have hz : ∀ j, j < 64 → (List.replicate 64 (Value.int .u8 0)).toArray[j]! = .int .u8 0 := fun j hj => rep_get _ 64 j hj
  by_cases h : i < n
  · rw [Array.getElem?_map, Array.getElem?_range, if_pos h, Option.map_some, List.size_toArray, List.length_replicate, hz _ (by omega)]
    simp [h]
  · simp [h]
theorem makeS (n : Nat) (hn : n ≤ 65536) (w : World) : (Instr.makeSlice 70 (.int .i64 (n : Int)) (.int .i64 (n : Int))).run Try.prog w = .ok (.slice (some ⟨w.heap.size, 0, none⟩) n n) (w.alloc (.cells (zeros (n * 64)).toArray 75)) := by
  obtain ⟨i0, hi0, hz0, hz1, hz2⟩ := info_parts (P := Try.prog) (e := 75) (z := .agg (zeros 64).toArray) (size := 64) (bytes := 64) (by kernel_rfl)
  have := run_make (P := Try.prog) w 70 75 i0 _ Try.underlying70 hi0 hz0 .i64 .i64 n n (by omega) (by omega) (by rw [hz2]; omega) (by omega)
  rw [hz1] at this
  simpa [Value.cells, madeZeros] using this
theorem wp_makeS {o : Oper} {a : Act} {w : World} {K : Act → World → Prop} {Q : Exit → Act → World → Prop} (x : Operand) (ho : o.op = .makeSlice 70 x x) (n : Nat) (hn : n ≤ 65536) (hx : a.eval x = .int .i64 (n : Int))
    (h : K (a.put o.dst (.slice (some ⟨w.heap.size, 0, none⟩) n n)) (w.alloc (.cells (zeros (n * 64)).toArray 75))) : o.wp Try.prog a w K Q := by
  unfold Oper.wp execOp
  simp only [ho, hx]
  rw [Sem.run_bind, makeS n hn w, Result.andThen_ok]
  exact h
theorem own_new {w : World} {base g n : Nat} (hb : Blk w g 75 (zeros (n * 64)).toArray) (hn : n ≤ 65536) (hg : base ≤ g) : w.ownsRow base 75 64 (.slice (some ⟨g, 0, none⟩) n n) (List.replicate n Dk.zsec).length (secs (List.replicate n Dk.zsec)) := by
  rw [List.length_replicate, secs_zero]
  exact own_mk hb hg (Nat.le_refl _) (by simp only [maxLen]; omega) (by simp [zeros]) (by simp [zeros]) (by simp [zeros])

set_option maxHeartbeats 400000 in
theorem new_no (n : Int) (w : World) (h : n < 16 ∨ 65536 < n) :
    Calls Try.prog 9 #[.int .i64 n] w fun e w' => e = .returned (.tuple #[.pointer none, .int .i64 1]) ∧ w = w' := by
  rcases h with h | h
  · have hd : decide (n < 16) = true := by simpa using h
    go_enter Try.func9, Try.ntmps9
    go_wp2
    go_ret2
    exact ⟨rfl, rfl⟩
  · have hd : decide (n < 16) = false := by simp; omega
    go_enter Try.func9, Try.ntmps9
    go_wp2
    go_ret2
    exact ⟨rfl, rfl⟩

set_option maxHeartbeats 800000 in
theorem new_yes (n : Nat) (w : World) (h1 : 16 ≤ n) (h2 : n ≤ 65536) :
    Calls Try.prog 9 #[.int .i64 n] w fun e w' => ∃ g vd vn vw, e = .returned (.tuple #[.pointer (some ⟨g, 0, none⟩), .int .i64 0]) ∧ DiskAt w' w.heap.size g (Dk.new n) vd vn vw ∧ Below w.heap.size w w' := by
  have hd : decide ((n : Int) < 16) = false := by simp; omega
  have hd2 : decide ((65536 : Int) < (n : Int)) = false := by simp; omega
  go_enter Try.func9, Try.ntmps9
  go_wp2_with fail
  refine wp_region_R (RL []) (by kernel_rfl) (RL_nil _) (fun hp => ?_)
  refine wpAnyR_take (i := 0) (oi := ⟨some 10, _, _, _, _, _⟩) (v := ?_) rfl (by kernel_rfl) (by kernel_rfl) (by kernel_rfl) (fun _ _ _ h => h) hp (.inl ⟨by rfl, fun w _ => ?_⟩) (fun hq => ?_)
  rotate_left
  · go_simp
    with_reducible rfl
  clear hp; have hp := hq; clear hq
  try simp only [Act.put, List.setIfInBounds_toArray, List.set_cons_zero, List.set_cons_succ]
  refine wpAnyR_take (i := 2) (oi := ⟨some 12, _, _, _, _, _⟩) (v := ?_) rfl (by kernel_rfl) (by kernel_rfl) (by kernel_rfl) (fun _ _ _ h => h) hp (.inl ⟨by rfl, fun w _ => ?_⟩) (fun hq => ?_)
  rotate_left
  · go_simp
    with_reducible rfl
  clear hp; have hp := hq; clear hq
  try simp only [Act.put, List.setIfInBounds_toArray, List.set_cons_zero, List.set_cons_succ]
  refine wpAnyR_two (i := 1) (j := 3) (by kernel_rfl) ?_ ?_
  refine stepR (i := 1) (o := ⟨some 11, _, _, _, _, _⟩) rfl (by rfl) (fun K hK => ?_) -- Op.makeSlice 70 (Operand.tmp 10) (Operand.tmp 10)
  refine wp_makeS (.tmp 10) rfl n h2 rfl ?_
  refine hK _ _ pend_nil (fun hq => ?_)
  clear hp hK K; have hp := hq; clear hq
  try simp only [Act.put, List.setIfInBounds_toArray, List.set_cons_zero, List.set_cons_succ]
  refine wpAnyR_step (i := 3) (o := ⟨some 13, _, _, _, _, _⟩) (by kernel_rfl) rfl (by rfl) (fun K hK => ?_) -- Op.makeSlice 70 (Operand.tmp 12) (Operand.tmp 12)
  refine wp_makeS (.tmp 12) rfl n h2 rfl ?_
  refine hK _ _ pend_nil (fun hq => ?_)
  clear hp hK K; have hp := hq; clear hq
  try simp only [Act.put, List.setIfInBounds_toArray, List.set_cons_zero, List.set_cons_succ]
  refine wpAnyR_take (i := 4) (oi := ⟨some 14, _, _, _, _, _⟩) (v := ?_) rfl (by kernel_rfl) (by kernel_rfl) (by kernel_rfl) (fun _ _ _ h => h) hp (.inl ⟨by rfl, fun w _ => ?_⟩) (fun hq => ?_)
  rotate_left
  · go_simp
    with_reducible rfl
  clear hp; have hp := hq; clear hq
  try simp only [Act.put, List.setIfInBounds_toArray, List.set_cons_zero, List.set_cons_succ]
  refine wpAnyR_step (i := 5) (o := ⟨some 15, _, _, _, _, _⟩) (by kernel_rfl) rfl (by rfl) (fun K hK => ?_) -- Op.box 73 (Operand.tmp 14)
  go_simp
  refine hK _ _ pend_nil (fun hq => ?_)
  clear hp hK K; have hp := hq; clear hq
  try simp only [Act.put, List.setIfInBounds_toArray, List.set_cons_zero, List.set_cons_succ]
  refine wpAnyR_take (i := 6) (oi := ⟨some 2, _, _, _, _, _⟩) (v := ?_) rfl (by kernel_rfl) (by kernel_rfl) (by kernel_rfl) (fun _ _ _ h => h) hp (.inl ⟨by rfl, fun w _ => ?_⟩) (fun hq => ?_)
  rotate_left
  · go_simp
    with_reducible rfl
  clear hp; have hp := hq; clear hq
  try simp only [Act.put, List.setIfInBounds_toArray, List.set_cons_zero, List.set_cons_succ]
  refine wpAnyR_take (i := 7) (oi := ⟨some 3, _, _, _, _, _⟩) (v := ?_) rfl (by kernel_rfl) (by kernel_rfl) (by kernel_rfl) (fun _ _ _ h => h) hp (.inl ⟨by rfl, fun w _ => ?_⟩) (fun hq => ?_)
  rotate_left
  · go_simp
    with_reducible rfl
  clear hp; have hp := hq; clear hq
  try simp only [Act.put, List.setIfInBounds_toArray, List.set_cons_zero, List.set_cons_succ]
  refine wpAnyR_done (by kernel_rfl) ?_ _
  clear hp
  rotate_left
  refine stepR (i := 3) (o := ⟨some 13, _, _, _, _, _⟩) rfl (by rfl) (fun K hK => ?_) -- Op.makeSlice 70 (Operand.tmp 12) (Operand.tmp 12)
  refine wp_makeS (.tmp 12) rfl n h2 rfl ?_
  refine hK _ _ pend_nil (fun hq => ?_)
  clear hp hK K; have hp := hq; clear hq
  try simp only [Act.put, List.setIfInBounds_toArray, List.set_cons_zero, List.set_cons_succ]
  refine wpAnyR_step (i := 1) (o := ⟨some 11, _, _, _, _, _⟩) (by kernel_rfl) rfl (by rfl) (fun K hK => ?_) -- Op.makeSlice 70 (Operand.tmp 10) (Operand.tmp 10)
  refine wp_makeS (.tmp 10) rfl n h2 rfl ?_
  refine hK _ _ pend_nil (fun hq => ?_)
  clear hp hK K; have hp := hq; clear hq
  try simp only [Act.put, List.setIfInBounds_toArray, List.set_cons_zero, List.set_cons_succ]
  refine wpAnyR_take (i := 4) (oi := ⟨some 14, _, _, _, _, _⟩) (v := ?_) rfl (by kernel_rfl) (by kernel_rfl) (by kernel_rfl) (fun _ _ _ h => h) hp (.inl ⟨by rfl, fun w _ => ?_⟩) (fun hq => ?_)
  rotate_left
  · go_simp
    with_reducible rfl
  clear hp; have hp := hq; clear hq
  try simp only [Act.put, List.setIfInBounds_toArray, List.set_cons_zero, List.set_cons_succ]
  refine wpAnyR_step (i := 5) (o := ⟨some 15, _, _, _, _, _⟩) (by kernel_rfl) rfl (by rfl) (fun K hK => ?_) -- Op.box 73 (Operand.tmp 14)
  go_simp
  refine hK _ _ pend_nil (fun hq => ?_)
  clear hp hK K; have hp := hq; clear hq
  try simp only [Act.put, List.setIfInBounds_toArray, List.set_cons_zero, List.set_cons_succ]
  refine wpAnyR_take (i := 6) (oi := ⟨some 2, _, _, _, _, _⟩) (v := ?_) rfl (by kernel_rfl) (by kernel_rfl) (by kernel_rfl) (fun _ _ _ h => h) hp (.inl ⟨by rfl, fun w _ => ?_⟩) (fun hq => ?_)
  rotate_left
  · go_simp
    with_reducible rfl
  clear hp; have hp := hq; clear hq
  try simp only [Act.put, List.setIfInBounds_toArray, List.set_cons_zero, List.set_cons_succ]
  refine wpAnyR_take (i := 7) (oi := ⟨some 3, _, _, _, _, _⟩) (v := ?_) rfl (by kernel_rfl) (by kernel_rfl) (by kernel_rfl) (fun _ _ _ h => h) hp (.inl ⟨by rfl, fun w _ => ?_⟩) (fun hq => ?_)
  rotate_left
  · go_simp
    with_reducible rfl
  clear hp; have hp := hq; clear hq
  try simp only [Act.put, List.setIfInBounds_toArray, List.set_cons_zero, List.set_cons_succ]
  refine wpAnyR_done (by kernel_rfl) ?_ _
  clear hp
  all_goals go_wp2
  all_goals go_ret2
  all_goals
    have e1 : ((w.alloc (.cells (zeros (n * 64)).toArray 75)).heap.size) = w.heap.size + 1 := by simp
    have b0 := Blk.fresh w 75 (zeros (n * 64)).toArray
    have b1 := Blk.fresh (w.alloc (.cells (zeros (n * 64)).toArray 75)) 75 (zeros (n * 64)).toArray
    rw [e1] at b1
    have b2 := fun o => ((b0.alloc (.cells (zeros (n * 64)).toArray 75)).alloc o).drew
    have b3 := fun o => (b1.alloc o).drew
    have b4 := fun cs => (Blk.fresh ((w.alloc (.cells (zeros (n * 64)).toArray 75)).alloc (.cells (zeros (n * 64)).toArray 75)) 73 cs).drew
    have e2 : (((w.alloc (.cells (zeros (n * 64)).toArray 75)).alloc (.cells (zeros (n * 64)).toArray 75)).heap.size) = w.heap.size + 1 + 1 := by simp
    rw [e2] at b4
  · refine ⟨_, _, _, _, rfl, ⟨b4 _, by omega, own_new (b3 _) h2 (by omega), own_new (b2 _) h2 (Nat.le_refl _), World.ownsRow_nil _ _ _ _, by simp [Value.ownBlock], Dk.new_ok n h1 h2⟩, ?_⟩
    exact ((((Below.refl _ w).alloc (Nat.le_refl _) _).alloc (by simp) _).alloc (by simp; omega) _).drew
  · refine ⟨_, _, _, _, rfl, ⟨b4 _, by omega, own_new (b2 _) h2 (Nat.le_refl _), own_new (b3 _) h2 (by omega), World.ownsRow_nil _ _ _ _, by simp [Value.ownBlock], Dk.new_ok n h1 h2⟩, ?_⟩
    exact ((((Below.refl _ w).alloc (Nat.le_refl _) _).alloc (by simp) _).alloc (by simp; omega) _).drew


/-- What a loop over the writes carries: the durable sectors so far; the rest is as it was. -/
structure FlushRel (w0 w1 : World) (base g : Nat) (d : Dk.D) (vd vn vw : Value) (l : List Dk.Sec) : Prop where
  blk : DBlk w1 g (Dk.spent d) vd vn vw
  dur : w1.ownsRow base 75 64 vd d.dur.length (secs l)
  now : w1.ownsRow base 75 64 vn d.now.length (secs d.now)
  wr : w1.ownsRow base 77 65 vw d.wr.length (wrs d.wr)
  chg : Chg (fun k => k = g ∨ vd.ownBlock = some k) w0 w1

theorem wrs_get {l : List (Nat × Dk.Sec)} (h : ∀ p ∈ l, p.2.length = 64) {k : Nat} {p : Nat × Dk.Sec} (hk : l[k]? = some p) : ∀ j v, (.int .i64 (p.1 : Int) :: bvs p.2)[j]? = some v → (wrs l)[k * 65 + j]? = some v := by
  induction l generalizing k with
  | nil => simp at hk
  | cons y r ih =>
    intro j v hv
    have e : wrs (y :: r) = (.int .i64 (y.1 : Int) :: bvs y.2) ++ wrs r := rfl
    have hy : (.int .i64 (y.1 : Int) :: bvs y.2).length = 65 := by rw [List.length_cons, length_bvs, h y (by simp)]
    rw [e]
    cases k with
    | zero =>
      simp at hk; subst hk
      have hj : j < (.int .i64 (y.1 : Int) :: bvs y.2).length := (List.getElem?_eq_some_iff.1 hv).1
      rw [Nat.zero_mul, Nat.zero_add, List.getElem?_append_left hj]; exact hv
    | succ k =>
      rw [List.getElem?_append_right (by omega), hy, show (k + 1) * 65 + j - 65 = k * 65 + j from by omega]
      exact ih (fun x hx => h x (by simp [hx])) (by simpa using hk) j v hv

theorem putAll_same (d : Dk.D) (k : Nat) : (Dk.putAll d.dur (d.wr.take k)).length = d.dur.length := Dk.length_putAll _ _
theorem FlushRel.next {w0 w1 w2 w3 : World} {base g gd cd : Nat} {d : Dk.D} {vn vw : Value} {k : Nat} {p : Nat × Dk.Sec} (hR : FlushRel w0 w1 base g d (.slice (some ⟨gd, 0, none⟩) d.dur.length cd) vn vw (Dk.putAll d.dur (d.wr.take k)))
    (hok : Dk.Ok d) (htwo : (Value.slice (some ⟨gd, 0, none⟩) d.dur.length cd).ownBlock ≠ vn.ownBlock) (hp : d.wr[k]? = some p) (h12 : Chg (fun _ => False) w1 w2) (h3 : w3 = w2.setCells gd (p.1 * 64) (bvs p.2)) :
    FlushRel w0 w3 base g d (.slice (some ⟨gd, 0, none⟩) d.dur.length cd) vn vw (Dk.putAll d.dur (d.wr.take (k + 1))) := by
  have hpm := hok.wr64 p (List.mem_of_getElem? hp)
  have h64 : ∀ s ∈ Dk.putAll d.dur (d.wr.take k), s.length = 64 := Dk.putAll_64 _ _ hok.dur64 (fun q hq => (hok.wr64 q (List.mem_of_mem_take hq)).2)
  have C : Chg (· = gd) w1 w3 := by rw [h3]; exact (h12.mono (fp' := (· = gd)) (fun _ _ h => h.elim)).setCells (.inl rfl) _ _
  subst h3
  refine ⟨C.blk hR.blk (fun e => own_ne_blk hR.dur hR.blk (by decide) gd rfl e.symm), ?_, C.own hR.now (fun k hk e => htwo (by rw [hk, e]; rfl)), C.own hR.wr (fun k hk e => own_ne_own hR.wr hR.dur (by decide) k gd hk rfl e), ?_⟩
  · rw [Dk.putAll_take _ _ _ _ hp]
    unfold Dk.put1
    rw [← secs_set _ hpm.2 _ _ h64 (by rw [putAll_same, hok.same]; exact hpm.1)]
    exact own_setCells (h12.own hR.dur (fun _ _ h => h)) _ _ (by rw [length_bvs, hpm.2, hok.same]; have := hpm.1; omega)
  · exact hR.chg.trans C (fun i hi => .inl (.inr (by rw [hi]; rfl)))

set_option maxHeartbeats 1000000 in
theorem flush_some (g base : Nat) (w : World) (d : Dk.D) (vd vn : Value) (gw cw : Nat) (h : DiskAt w base g d vd vn (.slice (some ⟨gw, 0, none⟩) d.wr.length cw)) (hd : d.down = false) (hsp : Dk.spends d = true) :
    Calls Try.prog 11 #[.pointer (some ⟨g, 0, none⟩)] w fun e w' => e = .returned (.int .i64 0) ∧ DiskAt w' base g (Dk.flushed (Dk.spent d)) vd vn (.slice none 0 0) ∧ Chg (fun k => k = g ∨ vd.ownBlock = some k) w w' := by
  have hB := h.blk
  obtain ⟨gd, cd, rfl, hgd, hgd', hcd, hcdm⟩ := own_form h.dur (by have := h.ok.many; have := h.ok.same; omega)
  have hc3 : w.cell? ⟨g, 3, none⟩ = some (.bool false) := by rw [← hd]; exact hB.cell 3
  have hmax : d.wr.length ≤ 9223372036854775807 := by
    obtain ⟨_, _, _, h1, h2⟩ := own_shape h.wr
    simp only [maxLen] at h2; omega
  have hcw : d.wr.length ≤ cw := by
    obtain ⟨_, _, _, h1, _⟩ := own_parts h.wr
    omega
  have H := Lib.hid h
  clear h hB hd
  go_enter Try.func11, Try.ntmps11
  go_wp2_with (first | (go_at_call 29; refine (up_calls g _ false (by assumption)).mono ?_; rintro e w' ⟨rfl, rfl⟩) | fail)
  refine (spend_calls g _ d _ _ _ H.out.blk H.out.ok.left).mono ?_
  rw [hsp]
  rintro e w1 ⟨rfl, hb1, hch1⟩
  have hc2 : w1.cell? ⟨g, 2, none⟩ = some (.slice (some ⟨gw, 0, none⟩) d.wr.length cw) := hb1.cell 2
  have R0 : FlushRel w w1 base g d (.slice (some ⟨gd, 0, none⟩) d.dur.length cd) vn (.slice (some ⟨gw, 0, none⟩) d.wr.length cw) (Dk.putAll d.dur (d.wr.take 0)) := ⟨hb1, hch1.own H.out.dur (fun k hk e => own_ne_blk H.out.dur H.out.blk (by decide) k hk e), hch1.own H.out.now (fun k hk e => own_ne_blk H.out.now H.out.blk (by decide) k hk e),
    hch1.own H.out.wr (fun k hk e => own_ne_blk H.out.wr H.out.blk (by decide) k hk e), hch1.mono (fun i _ hi => Or.inl hi)⟩
  have R := Lib.hid R0
  clear R0 hb1 hch1
  go_wp2_with fail
  go_loopg [19] d.wr.length (fun m i wr => ∃ k : Nat, k ≤ d.wr.length ∧ m + k = d.wr.length ∧ i = .int .i64 k ∧ Hid (FlushRel w wr base g d (.slice (some ⟨gd, 0, none⟩) d.dur.length cd) vn (.slice (some ⟨gw, 0, none⟩) d.wr.length cw) (Dk.putAll d.dur (d.wr.take k))))
  case atStart => exact ⟨0, Nat.zero_le _, rfl, rfl, R⟩
  case round =>
    obtain ⟨k, hk, hgk, rfl, hR⟩ := hrel
    by_cases hlt : k < d.wr.length
    · have hGK := Lib.hid hgk
      clear hgk hc2
      obtain ⟨p, hp⟩ : ∃ p, d.wr[k]? = some p := ⟨_, List.getElem?_eq_getElem hlt⟩
      have hpm := H.out.ok.wr64 p (List.mem_of_getElem? hp)
      have hw64 : ∀ p ∈ d.wr, p.2.length = 64 := fun q hq => (H.out.ok.wr64 q hq).2
      obtain ⟨X, hX⟩ : ∃ X, X = bvs p.2 := ⟨_, rfl⟩
      have hr : wr.rangeAt gw (k * 65) (.int .i64 (p.1 : Int) :: X) := own_range hR.out.wr _ _ (fun j v hv => wrs_get hw64 hp j v (by rw [← hX]; exact hv))
      have hXl : X.length = 64 := by rw [hX, length_bvs]; exact hpm.2
      have hX1 : ∀ v ∈ X, v.oneCell' = true := by rw [hX]; exact one_bvs _
      have hP1 : ∀ v ∈ (.int .i64 (p.1 : Int) :: X), v.oneCell' = true := by
        intro v hv
        rcases List.mem_cons.1 hv with rfl | hv
        · rfl
        · exact hX1 v hv
      have HIP : Hid ((Try.prog.info? 77).map (·.size) = some (Value.int .i64 (p.1 : Int) :: X).length) := Lib.hid (by rw [Try.sizeP, List.length_cons, hXl])
      have hi : (Try.prog.info? 75).map (·.size) = some X.length := by rw [Try.infoS, hXl]
      have HI := Lib.hid hi
      have hth : (wr.alloc (.cells zerosP.toArray 77)).there wr.heap.size 0 (Value.int .i64 (p.1 : Int) :: X).length := (Blk.fresh wr 77 _).there_ 0 _ (by simp [zerosP, zeros, hXl])
      have hat : (p.1 : Int) < (d.dur.length : Int) := by rw [H.out.ok.same]; exact Int.ofNat_lt.2 hpm.1
      have HX := Lib.hid hX
      have HXL := Lib.hid hXl
      have HP := Lib.hid hp
      clear hX hXl hi hp hw64
      go_wp2_with (first
        | (with_reducible refine wpList_load_mid (op := ⟨some 22, _, _, _, _, _⟩) rfl _ _ rfl gw (k * 65) rfl (.int .i64 (p.1 : Int) :: X) _ hr Try.underlying77 rfl HIP.out ?_)
        | (with_reducible refine wpList_allocP (o := ⟨some 5, _, _, _, _, _⟩) rfl rfl ?_)
        | ((with_reducible refine wpList_store_at (op := ⟨none, _, _, _, _, _⟩) rfl 77 (.tmp 5) (.tmp 22) rfl wr.heap.size 0 (.int .i64 (p.1 : Int) :: X) rfl rfl hth HIP.out hP1 ?_); intro w2 hw2))
      have C2 : Chg (fun _ => False) wr w2 := by rw [hw2.out]; exact ((Chg.refl (fun _ => False) wr).alloc _).setCells (.inr (Nat.le_refl _)) _ _
      have HBX : Blk w2 wr.heap.size 77 (.int .i64 (p.1 : Int) :: X).toArray := by
        rw [hw2.out]
        have := (Blk.fresh wr 77 zerosP.toArray).setCells (o := 0) (vs := .int .i64 (p.1 : Int) :: X) (by simp [zerosP, zeros, HXL.out])
        rw [show (splice zerosP.toArray.toList 0 (.int .i64 (p.1 : Int) :: X)) = .int .i64 (p.1 : Int) :: X from by simp only [splice]; rw [List.take_zero, List.nil_append, List.drop_eq_nil_of_le (by simp [zerosP, zeros, HXL.out]), List.append_nil]] at this
        exact this
      have hc0 : w2.cell? ⟨g, 0, none⟩ = some (.slice (some ⟨gd, 0, none⟩) d.dur.length cd) := (C2.blk hR.out.blk (fun h => h)).cell 0
      have hcx : w2.cell? ⟨wr.heap.size, 0, none⟩ = some (.int .i64 (p.1 : Int)) := by rw [HBX.cell]; rfl
      have hrx : w2.rangeAt wr.heap.size 1 X := HBX.range 1 X (fun j v hv => by rw [show 1 + j = j + 1 from by omega]; simpa using hv)
      have htd : w2.drew.there gd (p.1 * 64) X.length := by
        have := own_there (C2.own hR.out.dur (fun _ _ h => h)) (p.1 * 64) X.length (by rw [HXL.out]; omega)
        simpa using this
      have hi := HI.out
      go_wp2_with fail
      refine wp_region_R (RL [(3, fun w' => w'.cell? ⟨g, 0, none⟩ = some (.slice (some ⟨gd, 0, none⟩) d.dur.length cd)), (5, fun w' => w'.cell? ⟨wr.heap.size, 0, none⟩ = some (.int .i64 (p.1 : Int))), (7, fun w' => w'.rangeAt wr.heap.size 1 X)]) (by kernel_rfl) (RL_cons hc0 (RL_cons hcx (RL_cons (by simpa using hrx) (RL_nil _)))) (fun hp => ?_)
      refine wpAnyR_take (i := 0) (oi := ⟨some 23, _, _, _, _, _⟩) (v := ?_) rfl (by kernel_rfl) (by kernel_rfl) (by kernel_rfl) (fun _ _ _ h => h) hp (.inl ⟨by rfl, fun w _ => ?_⟩) (fun hq => ?_)
      rotate_left
      · go_simp
        with_reducible rfl
      clear hp; have hp := hq; clear hq
      try simp only [Act.put, List.setIfInBounds_toArray, List.set_cons_zero, List.set_cons_succ]
      refine wpAnyR_take (i := 1) (oi := ⟨some 24, _, _, _, _, _⟩) (v := ?_) rfl (by kernel_rfl) (by kernel_rfl) (by kernel_rfl) (fun _ _ _ h => h) hp (.inl ⟨by rfl, fun w _ => ?_⟩) (fun hq => ?_)
      rotate_left
      · go_simp
        with_reducible rfl
      clear hp; have hp := hq; clear hq
      try simp only [Act.put, List.setIfInBounds_toArray, List.set_cons_zero, List.set_cons_succ]
      refine wpAnyR_take (i := 2) (oi := ⟨some 25, _, _, _, _, _⟩) (v := ?_) rfl (by kernel_rfl) (by kernel_rfl) (by kernel_rfl) (fun _ _ _ h => h) hp (.inl ⟨by rfl, fun w _ => ?_⟩) (fun hq => ?_)
      rotate_left
      · go_simp
        with_reducible rfl
      clear hp; have hp := hq; clear hq
      try simp only [Act.put, List.setIfInBounds_toArray, List.set_cons_zero, List.set_cons_succ]
      refine wpAnyR_take (i := 3) (oi := ⟨some 26, _, _, _, _, _⟩) (v := ?_) rfl (by kernel_rfl) (by kernel_rfl) (by kernel_rfl) (fun _ _ _ h => h) hp (.inl ⟨by rfl, fun w hR => ?_⟩) (fun hq => ?_)
      rotate_left
      · have hR := hR.1 rfl
        (try dsimp only at hR)
        go_simp
        with_reducible rfl
      clear hp; have hp := hq; clear hq
      try simp only [Act.put, List.setIfInBounds_toArray, List.set_cons_zero, List.set_cons_succ]
      refine wpAnyR_take (i := 4) (oi := ⟨some 27, _, _, _, _, _⟩) (v := ?_) rfl (by kernel_rfl) (by kernel_rfl) (by kernel_rfl) (fun _ _ _ h => h) hp (.inl ⟨by rfl, fun w _ => ?_⟩) (fun hq => ?_)
      rotate_left
      · go_simp
        with_reducible rfl
      clear hp; have hp := hq; clear hq
      try simp only [Act.put, List.setIfInBounds_toArray, List.set_cons_zero, List.set_cons_succ]
      refine wpAnyR_take (i := 5) (oi := ⟨some 28, _, _, _, _, _⟩) (v := ?_) rfl (by kernel_rfl) (by kernel_rfl) (by kernel_rfl) (fun _ _ _ h => h) hp (.inl ⟨by rfl, fun w hR => ?_⟩) (fun hq => ?_)
      rotate_left
      · have hR := hR.2.1 rfl
        (try dsimp only at hR)
        go_simp
        with_reducible rfl
      clear hp; have hp := hq; clear hq
      try simp only [Act.put, List.setIfInBounds_toArray, List.set_cons_zero, List.set_cons_succ]
      refine wpAnyR_take (i := 6) (oi := ⟨some 29, _, _, _, _, _⟩) (v := ?_) rfl (by kernel_rfl) (by kernel_rfl) (by kernel_rfl) (fun _ _ _ h => h) hp (.inl ⟨by rfl, fun w _ => ?_⟩) (fun hq => ?_)
      rotate_left
      · go_simp
        with_reducible rfl
      clear hp; have hp := hq; clear hq
      try simp only [Act.put, List.setIfInBounds_toArray, List.set_cons_zero, List.set_cons_succ]
      refine wpAnyR_take (i := 7) (oi := ⟨some 30, _, _, _, _, _⟩) rfl (by kernel_rfl) (by kernel_rfl) (by kernel_rfl) (fun _ _ _ h => h) hp (yieldsIf_load_mid (by rfl) _ _ rfl wr.heap.size 1 rfl X _ (fun w hR => hR.2.2.1 rfl) Try.underlying75 rfl hi) (fun hq => ?_)
      clear hp; have hp := hq; clear hq
      try simp only [Act.put, List.setIfInBounds_toArray, List.set_cons_zero, List.set_cons_succ]
      refine wpAnyR_take (i := 8) (oi := ⟨some 31, _, _, _, _, _⟩) (v := ?_) rfl (by kernel_rfl) (by kernel_rfl) (by kernel_rfl) (fun _ _ _ h => h) hp (.inl ⟨by rfl, fun w _ => ?_⟩) (fun hq => ?_)
      rotate_left
      · go_simp
        with_reducible rfl
      clear hp; have hp := hq; clear hq
      try simp only [Act.put, List.setIfInBounds_toArray, List.set_cons_zero, List.set_cons_succ]
      refine wpAnyR_step (i := 9) (o := ⟨none, _, _, _, _, _⟩) (by kernel_rfl) rfl (by rfl) (fun K hK => ?_) -- Op.store 75 (Operand.tmp 31) (Operand.tmp 30)
      refine wp_store_at 75 _ _ rfl gd (p.1 * 64) X (by rfl) (by rfl) htd hi hX1 ?_
      intro w3 hw3
      refine hK _ _ (pend_off (by kernel_rfl) (pend_off (by kernel_rfl) (pend_off (by kernel_rfl) pend_nil))) (fun hq => ?_)
      clear hp hK K; have hp := hq; clear hq
      try simp only [Act.put]
      refine wpAnyR_done (by kernel_rfl) ?_ _
      clear hp
      go_wp2
      have hgk' := hGK.out
      go_roundg (gk - 1)
      case measure => omega
      case rel => exact ⟨k + 1, by omega, by omega, by go_num, Lib.hid (hR.out.next H.out.ok H.out.two HP.out (C2.drew) (by rw [hw3.out, HX.out]))⟩
    · obtain rfl : k = d.wr.length := by omega
      have hf2 : wr.frozen? ⟨g, 2, none⟩ = false := hR.out.blk.frozen 2
      have hc2' : wr.cell? ⟨g, 2, none⟩ = some (.slice (some ⟨gw, 0, none⟩) d.wr.length cw) := hR.out.blk.cell 2
      go_wp2
      go_ret
      have hR' := hR.out
      rw [List.take_length] at hR'
      have hb := hR'.blk.put 2 (.slice none 0 0)
      have hc := (Chg.refl (· = g) wr).setCell (p := ⟨g, 2, none⟩) (.inl rfl) (.slice none 0 0)
      refine ⟨rfl, ⟨?_, H.out.low, ?_, ?_, World.ownsRow_nil _ _ _ _, H.out.two, Dk.flushed_ok (Dk.spent_ok H.out.ok)⟩, hR'.chg.trans hc (fun i hi => .inl (.inl hi))⟩
      · exact hb
      · rw [show (Dk.flushed (Dk.spent d)).dur = Dk.putAll d.dur d.wr from by simp [Dk.flushed, Dk.spent_dur, Dk.spent_wr], Dk.length_putAll]
        exact hc.own hR'.dur (fun k hk e => own_ne_blk hR'.dur hR'.blk (by decide) k hk e)
      · rw [show (Dk.flushed (Dk.spent d)).now = d.now from Dk.spent_now d]
        exact hc.own hR'.now (fun k hk e => own_ne_blk hR'.now hR'.blk (by decide) k hk e)

end Go.Proofs.Ytdnjelggdjimhaa
