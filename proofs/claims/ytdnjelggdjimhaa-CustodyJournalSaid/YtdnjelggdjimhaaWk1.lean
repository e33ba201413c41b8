/-
  The walks of the disk's small functions.
-/
import Derived.Test.YtdnjelggdjimhaaRows
import Derived.Test.YtdnjelggdjimhaaMem
import Derived.Test.YtdnjelggdjimhaaDk
import Derived.Test.YtdnjelggdjimhaaOrd
namespace Go.Proofs.Ytdnjelggdjimhaa
open Go.RowKit

def bv (b : UInt8) : Value := .int .u8 (b.toNat : Int)
def bvs (l : List UInt8) : List Value := l.map bv
def secs (l : List Dk.Sec) : List Value := l.flatMap bvs
def wrs (l : List (Nat × Dk.Sec)) : List Value := l.flatMap fun p => .int .i64 (p.1 : Int) :: bvs p.2

/-- A disk lies in memory: its struct at block g, its rows at or beyond base; fp: the blocks that it takes. -/
structure DiskAt (w : World) (base g : Nat) (d : Dk.D) (vd vn vw : Value) : Prop where
  blk : Blk w g 73 #[vd, vn, vw, .bool d.down, .bool d.armed, .int .i64 (d.left : Int)]
  low : base ≤ g
  dur : w.ownsRow base 75 64 vd d.dur.length (secs d.dur)
  now : w.ownsRow base 75 64 vn d.now.length (secs d.now)
  wr : w.ownsRow base 77 65 vw d.wr.length (wrs d.wr)
  two : vd.ownBlock ≠ vn.ownBlock
  ok : Dk.Ok d

set_option maxHeartbeats 400000 in
theorem up_calls (g : Nat) (w : World) (down : Bool) (hc : w.cell? ⟨g, 3, none⟩ = some (.bool down)) :
    Calls Try.prog 29 #[.pointer (some ⟨g, 0, none⟩)] w fun e w' => e = .returned (.int .i64 (if down then 70 else 0)) ∧ w = w' := by
  cases down
  all_goals
    go_enter Try.func29, Try.ntmps29
    go_wp2
    go_ret
    exact ⟨rfl, rfl⟩

def DBlk (w : World) (g : Nat) (d : Dk.D) (vd vn vw : Value) : Prop := Blk w g 73 #[vd, vn, vw, .bool d.down, .bool d.armed, .int .i64 (d.left : Int)]

set_option maxHeartbeats 400000 in
theorem spend_calls (g : Nat) (w : World) (d : Dk.D) (vd vn vw : Value) (h : DBlk w g d vd vn vw) (hl : d.left ≤ 9223372036854775807) :
    Calls Try.prog 30 #[.pointer (some ⟨g, 0, none⟩)] w fun e w' => e = .returned (.bool (Dk.spends d)) ∧ DBlk w' g (Dk.spent d) vd vn vw ∧ Chg (· = g) w w' := by
  obtain ⟨dur, now, wr, down, armed, left⟩ := d
  unfold DBlk at h
  have hc3 := h.cell 3
  have hc4 := h.cell 4
  have hc5 := h.cell 5
  have hf3 := h.frozen 3
  have hf5 := h.frozen 5
  simp at hc3 hc4 hc5 hl
  have H := Lib.hid h
  clear h
  cases armed
  · go_enter Try.func30, Try.ntmps30
    go_wp2
    go_ret
    exact ⟨rfl, H.out, Chg.refl _ _⟩
  · by_cases h0 : left = 0
    · subst h0
      go_enter Try.func30, Try.ntmps30
      go_wp2
      go_ret
      refine ⟨rfl, ?_, (Chg.refl (· = g) w).setCell (p := ⟨g, 3, none⟩) (.inl rfl) _⟩
      exact H.out.put 3 _
    · go_enter Try.func30, Try.ntmps30
      go_wp2
      go_ret
      have e : Dk.spent ⟨dur, now, wr, down, true, left⟩ = ⟨dur, now, wr, down, true, left - 1⟩ := by simp [Dk.spent, h0]
      rw [e]
      refine ⟨by simp [Dk.spends, h0], ?_, (Chg.refl (· = g) w).setCell (p := ⟨g, 5, none⟩) (.inl rfl) _⟩
      have := H.out.put 5 (.int .i64 ((left : Int) - 1))
      rw [show ((left : Int) - 1) = ((left - 1 : Nat) : Int) from by omega] at this ⊢
      exact this

def zeros (n : Nat) : List Value := List.replicate n (.int .u8 0)
theorem zeroP (w : World) : (zeroValue 77).run Try.prog w = .ok (.agg (.int .i64 0 :: zeros 64).toArray) w := by kernel_rfl
theorem zeroS (w : World) : (zeroValue 75).run Try.prog w = .ok (.agg (zeros 64).toArray) w := by kernel_rfl
theorem buildP (k : Int) (X : List Value) (hX : X.length = 64) (w : World) :
    (Instr.build 77 #[(0, .int .i64 k), (1, .agg X.toArray)]).run Try.prog w = .ok (.agg (.int .i64 k :: X).toArray) w := by
  unfold Instr.build
  rw [Sem.run_bind, zeroP, Result.andThen_ok]
  rw [Sem.run_bind, run_underlying Try.underlying77, Result.andThen_ok]
  dsimp only
  rw [Sem.run_bind, show Sem.run Try.prog (Array.mapM (fun (f : Field) => (do pure (f.offset, ← sizeOf f.type) : Sem (Nat × Nat))) #[{ name := "at", type := 3, offset := 0, embedded := false, tag := "", pkgPath := "restante/custody", byteOffset := 0 },
        { name := "data", type := 75, offset := 1, embedded := false, tag := "", pkgPath := "restante/custody", byteOffset := 8 }]) w = .ok #[(0, 1), (1, 64)] w from by kernel_rfl, Result.andThen_ok]
  rw [fill_one _ _ 0 0 _ _ rfl (by simp [Value.cells, zeros]), fill_one _ _ 1 1 _ _ (by simp [Value.cells, hX]) (by simp [Value.cells, hX, zeros, splice])]
  simp [Instr.fill, Value.cells, splice, zeros, hX]
theorem buildSliceP (PX : List Value) (hX : PX.length = 65) (w : World) :
    (Instr.buildSlice 71 1 #[(0, .agg PX.toArray)]).run Try.prog w = .ok (.slice (some ⟨w.heap.size, 0, none⟩) 1 1) (w.alloc (.cells PX.toArray 77)) := by
  unfold Instr.buildSlice
  rw [Sem.run_bind, run_underlying Try.underlying71, Result.andThen_ok]
  dsimp only
  rw [Sem.run_bind, show Sem.run Try.prog (sizeOf 77) w = .ok 65 w from by kernel_rfl, Result.andThen_ok]
  rw [if_neg (by omega), if_neg (by omega), Sem.run_bind, zeroP, Result.andThen_ok, Sem.run_bind, Sem.run_pure, Result.andThen_ok]
  rw [fill_one _ _ 0 0 _ _ (by simp [Value.cells, hX]) (by simp [Value.cells, hX])]
  simp [Instr.fill, Value.cells, splice, hX, newRow]
  rw [List.drop_eq_nil_of_le (by simp), List.append_nil]

theorem allocS (v : Value) (w : World) : (Instr.alloc 75 true v).run Try.prog w = .ok (.pointer (some ⟨w.heap.size, 0, none⟩)) (w.alloc (.cells (zeros 64).toArray 75)) := by
  unfold Instr.alloc
  rw [Sem.run_bind, zeroS, Result.andThen_ok]
  rfl
theorem wpList_allocS {ops : Array Oper} {rest : List Oper} {o : Oper} {a : Act} {w : World} {Q : Exit → Act → World → Prop} (hgd : o.guard = none) (ho : o.op = .alloc 75)
    (h : wpList Try.prog ops Q rest (a.put o.dst (.pointer (some ⟨w.heap.size, 0, none⟩))) (w.alloc (.cells (zeros 64).toArray 75))) : wpList Try.prog ops Q (o :: rest) a w := by
  refine wpList_plain hgd fun K hK => ?_
  unfold Oper.wp execOp
  simp only [ho, allocS, Sem.run_bind, Result.andThen_ok]
  exact hK _ _ h

def zerosP : List Value := .int .i64 0 :: zeros 64
theorem allocP (v : Value) (w : World) : (Instr.alloc 77 true v).run Try.prog w = .ok (.pointer (some ⟨w.heap.size, 0, none⟩)) (w.alloc (.cells zerosP.toArray 77)) := by
  unfold Instr.alloc
  rw [Sem.run_bind, zeroP, Result.andThen_ok]
  rfl
theorem wpList_allocP {ops : Array Oper} {rest : List Oper} {o : Oper} {a : Act} {w : World} {Q : Exit → Act → World → Prop} (hgd : o.guard = none) (ho : o.op = .alloc 77)
    (h : wpList Try.prog ops Q rest (a.put o.dst (.pointer (some ⟨w.heap.size, 0, none⟩))) (w.alloc (.cells zerosP.toArray 77))) : wpList Try.prog ops Q (o :: rest) a w := by
  refine wpList_plain hgd fun K hK => ?_
  unfold Oper.wp execOp
  simp only [ho, allocP, Sem.run_bind, Result.andThen_ok]
  exact hK _ _ h
theorem exec_buildP (ρ : Operand → Value) (o : Oper) (k : Int) {X : List Value} {x y : Operand} (ho : o.op = .build 77 #[(0, x), (1, y)]) (hx : ρ x = .int .i64 k) (hy : ρ y = .agg X.toArray) (hX : X.length = 64) (w : World) :
    (execOp ρ o).run Try.prog w = .ok (.value (.agg (.int .i64 k :: X).toArray)) w := by
  unfold execOp
  simp only [ho, List.map_toArray, List.map_cons, List.map_nil, hx, hy]
  rw [Sem.run_bind, buildP k X hX w, Result.andThen_ok]
  rfl
theorem wp_buildSliceP {o : Oper} {a : Act} {w : World} {K : Act → World → Prop} {Q : Exit → Act → World → Prop} {PX : List Value} (x : Operand) (ho : o.op = .buildSlice 71 1 #[(0, x)]) (hx : a.eval x = .agg PX.toArray) (hX : PX.length = 65)
    (h : K (a.put o.dst (.slice (some ⟨w.heap.size, 0, none⟩) 1 1)) (w.alloc (.cells PX.toArray 77))) : o.wp Try.prog a w K Q := by
  unfold Oper.wp execOp
  simp only [ho, List.map_toArray, List.map_cons, List.map_nil, hx]
  rw [Sem.run_bind, buildSliceP PX hX w, Result.andThen_ok]
  exact h
theorem Try.infoP : (Try.prog.info? 77).map (fun i => (i.zero, i.size, i.bytes)) = some (some (.agg (.int .i64 0 :: zeros 64).toArray), 65, 72) := by kernel_rfl

theorem Try.sizeP : (Try.prog.info? 77).map (·.size) = some 65 := by kernel_rfl
theorem Try.infob : (Try.prog.info? 5).map (·.size) = some 1 := by kernel_rfl
theorem Try.infoS : (Try.prog.info? 75).map (·.size) = some 64 := by kernel_rfl

def Wrote (g base : Nat) (d : Dk.D) (vd vn vw : Value) (w : World) (w' : World) : Prop :=
  ∃ vw', DiskAt w' base g d vd vn vw' ∧ Chg (fun k => k = g ∨ vn.ownBlock = some k ∨ vw.ownBlock = some k) w w' ∧ (vw'.ownBlock = vw.ownBlock ∨ ∃ k, vw'.ownBlock = some k ∧ w.heap.size ≤ k)

theorem length_bvs (l : List UInt8) : (bvs l).length = l.length := by simp [bvs]
theorem one_bvs (l : List UInt8) : ∀ v ∈ bvs l, v.oneCell' = true := by
  intro v hv
  obtain ⟨b, _, rfl⟩ := List.mem_map.1 hv
  rfl
theorem length_secs (l : List Dk.Sec) (h : ∀ s ∈ l, s.length = 64) : (secs l).length = l.length * 64 := by
  induction l with
  | nil => rfl
  | cons s r ih =>
    have e : secs (s :: r) = bvs s ++ secs r := rfl
    rw [e, List.length_append, ih (fun x hx => h x (by simp [hx])), length_bvs, h s (by simp), List.length_cons]; omega
theorem one_secs (l : List Dk.Sec) : ∀ v ∈ secs l, v.oneCell' = true := by
  intro v hv
  obtain ⟨s, _, hs⟩ := List.mem_flatMap.1 hv
  exact one_bvs s v hs
theorem secs_set (x : Dk.Sec) (hx : x.length = 64) : ∀ (l : List Dk.Sec) (k : Nat), (∀ s ∈ l, s.length = 64) → k < l.length → splice (secs l) (k * 64) (bvs x) = secs (l.set k x)
  | [], k, _, hk => by simp at hk
  | s :: r, 0, h, _ => by
    have e : ∀ y, secs (y :: r) = bvs y ++ secs r := fun _ => rfl
    have hs : (bvs s).length = 64 := by rw [length_bvs]; exact h s (by simp)
    rw [List.set_cons_zero, e, e]
    simp only [splice, Nat.zero_mul, List.take_zero, List.nil_append, Nat.zero_add, length_bvs, hx]
    rw [List.drop_append_of_le_length (by omega), List.drop_of_length_le (l := bvs s) (by omega), List.nil_append]
  | s :: r, k + 1, h, hk => by
    have e : ∀ y r', secs (y :: r') = bvs y ++ secs r' := fun _ _ => rfl
    have hs : (bvs s).length = 64 := by rw [length_bvs]; exact h s (by simp)
    have ih := secs_set x hx r k (fun y hy => h y (by simp [hy])) (by simpa using hk)
    rw [List.set_cons_succ, e, e, ← ih]
    simp only [splice]
    rw [show (k + 1) * 64 = 64 + k * 64 from by omega, List.take_append, List.drop_append, hs, List.take_of_length_le (l := bvs s) (by omega), List.drop_of_length_le (l := bvs s) (by omega), List.append_assoc, List.nil_append,
      show 64 + k * 64 - 64 = k * 64 from by omega, show 64 + k * 64 + (bvs x).length - 64 = k * 64 + (bvs x).length from by omega]
theorem secs_get {l : List Dk.Sec} (h : ∀ s ∈ l, s.length = 64) {k : Nat} {s : Dk.Sec} (hk : l[k]? = some s) : ∀ j v, (bvs s)[j]? = some v → (secs l)[k * 64 + j]? = some v := by
  induction l generalizing k with
  | nil => simp at hk
  | cons y r ih =>
    intro j v hv
    have e : secs (y :: r) = bvs y ++ secs r := rfl
    have hy : (bvs y).length = 64 := by rw [length_bvs]; exact h y (by simp)
    rw [e]
    cases k with
    | zero =>
      simp at hk; subst hk
      have hj : j < (bvs y).length := (List.getElem?_eq_some_iff.1 hv).1
      rw [Nat.zero_mul, Nat.zero_add, List.getElem?_append_left hj]; exact hv
    | succ k =>
      rw [List.getElem?_append_right (by omega), hy, show (k + 1) * 64 + j - 64 = k * 64 + j from by omega]
      exact ih (fun x hx => h x (by simp [hx])) (by simpa using hk) j v hv
theorem wrs_snoc (l : List (Nat × Dk.Sec)) (k : Nat) (x : Dk.Sec) : wrs (l ++ [(k, x)]) = wrs l ++ (.int .i64 (k : Int) :: bvs x) := by simp [wrs]
theorem bvs_pad (b : List UInt8) : splice (zeros 64) 0 (bvs b) = bvs (Dk.pad b) := by
  unfold splice zeros bvs Dk.pad
  rw [List.take_zero, List.nil_append, List.drop_replicate, List.map_append, List.map_replicate, Nat.zero_add, List.length_map]
  rfl

set_option maxHeartbeats 400000 in
theorem write_calls (g base : Nat) (w : World) (d : Dk.D) (vd vn vw : Value) (at_ : Int) (A : Option Addr) (n c : Nat) (bs : List UInt8) (h : DiskAt w base g d vd vn vw) (hd : d.down = false)
   (hat : 0 ≤ at_) (hat' : at_ < d.now.length) (hn : n = bs.length) (hn64 : n ≤ 64) (hs : SrcAt w A (bvs bs)) (hne : bs ≠ [] → ∀ ad, A = some ad → ad.block ≠ g) (hsp : Dk.spends d = true) (HROOM : d.wr.length + 1 ≤ maxLen ∧ (d.wr.length + 1) * 72 ≤ 140737488355328) :
    Calls Try.prog 10 #[.pointer (some ⟨g, 0, none⟩), .int .i64 at_, .slice A n c] w fun e w' => e = .returned (.int .i64 (Dk.writeErr d at_ bs.length)) ∧ Wrote g base (Dk.write d at_ bs) vd vn vw w w' := by
  obtain ⟨k, rfl⟩ : ∃ k : Nat, at_ = k := ⟨at_.toNat, by omega⟩
  obtain ⟨Aw, cw, rfl, hcw, hcwm⟩ := own_shape h.wr
  obtain ⟨gn, cn, rfl, hgn, hgn', hcn, hcm⟩ := own_form h.now (by have := h.ok.many; omega)
  have hB := h.blk
  have hc1 : w.cell? ⟨g, 1, none⟩ = some (.slice (some ⟨gn, 0, none⟩) d.now.length cn) := hB.cell 1
  have hc3 : w.cell? ⟨g, 3, none⟩ = some (.bool false) := by rw [← hd]; exact hB.cell 3
  have H := Lib.hid h
  have HN := Lib.hid hn
  have HDN := Lib.hid hd
  clear h hB hn hd
  obtain ⟨i0, hi0, hz0, hz1, hz2⟩ := info_parts Try.infoP
  go_enter Try.func10, Try.ntmps10
  go_wp2_with (first | (go_at_call 29; refine (up_calls g _ false (by assumption)).mono ?_; rintro e w' ⟨rfl, rfl⟩) | fail)
  refine (spend_calls g _ d _ _ _ H.out.blk H.out.ok.left).mono ?_
  rw [hsp]
  rintro e w1 ⟨rfl, hb1, hch1⟩
  have hs1 := hs.chg hch1 (fun h => hne (fun e => h (by rw [e]; rfl)))
  have hs1' := fun o => hs1.alloc o
  clear hs hs1 hc1 hc3
  have hc1 : w1.cell? ⟨g, 1, none⟩ = some (.slice (some ⟨gn, 0, none⟩) d.now.length cn) := hb1.cell 1
  have hth : (w1.alloc (.cells (zeros 64).toArray 75)).there w1.heap.size 0 (bvs bs).length := (Blk.fresh w1 75 _).there_ 0 _ (by simp [zeros, length_bvs]; rw [← HN.out]; exact hn64)
  have hmin : (bvs bs).length = Nat.min n 64 := by rw [length_bvs, HN.out]; exact (Nat.min_eq_left (by rw [← HN.out]; exact hn64)).symm
  have HMIN := Lib.hid hmin
  have H1 := Lib.hid hb1
  have C1 := Lib.hid hch1
  clear hb1 hch1 hmin
  go_wp2_with (first
    | (with_reducible refine wpList_allocS (o := ⟨some 8, _, _, _, _, _⟩) rfl rfl ?_)
    | ((with_reducible refine wpList_copy_at (o := ⟨some 33, _, _, _, _, _⟩) rfl (.tmp 31) (.tmp 32) 22 22 rfl 5 Try.underlying22 Try.infob _ 0 64 64 A n c rfl rfl (bvs bs) HMIN.out (hs1' _) hth (one_bvs bs) ?_); intro w2 hw2))
  have hsz1 := C1.out.size
  have hfr := Blk.fresh w1 75 (zeros 64).toArray
  have hgx : g ≠ w1.heap.size := Nat.ne_of_lt (Nat.lt_of_lt_of_le H.out.blk.lt hsz1)
  have hnx : gn ≠ w1.heap.size := Nat.ne_of_lt (Nat.lt_of_lt_of_le hgn' hsz1)
  have HX2 : Blk w2 w1.heap.size 75 (bvs (Dk.pad bs)).toArray := by
    rw [hw2.out, ← bvs_pad bs]
    exact hfr.setCells (by simp [zeros, length_bvs]; rw [← HN.out]; exact hn64)
  have HB2 : DBlk w2 g (Dk.spent d) vd (.slice (some ⟨gn, 0, none⟩) d.now.length cn) (.slice Aw d.wr.length cw) := by
    rw [hw2.out]; exact (H1.out.alloc _).farCells hgx _
  have HN2 : w2.ownsRow base 75 64 (.slice (some ⟨gn, 0, none⟩) d.now.length cn) d.now.length (secs d.now) := by
    rw [hw2.out]
    exact ((Chg.refl (· = w1.heap.size) _).setCells (.inl rfl) 0 _).own ((C1.out.own H.out.now (fun k hk => own_ne_blk H.out.now H.out.blk (by decide) k hk)).alloc _) (fun k hk => by cases hk; exact hnx)
  have HW2 : w2.ownsRow base 77 65 (.slice Aw d.wr.length cw) d.wr.length (wrs d.wr) := by
    rw [hw2.out]
    exact ((Chg.refl (· = w1.heap.size) _).setCells (.inl rfl) 0 _).own ((C1.out.own H.out.wr (fun k hk => own_ne_blk H.out.wr H.out.blk (by decide) k hk)).alloc _) (fun k hk => by have := (H.out.wr.lt k hk).2; omega)
  have HD2 : w2.ownsRow base 75 64 vd d.dur.length (secs d.dur) := by
    rw [hw2.out]
    exact ((Chg.refl (· = w1.heap.size) _).setCells (.inl rfl) 0 _).own ((C1.out.own H.out.dur (fun k hk => own_ne_blk H.out.dur H.out.blk (by decide) k hk)).alloc _) (fun k hk => by have := (H.out.dur.lt k hk).2; omega)
  have C2 : Chg (· = g) w w2 := by
    rw [hw2.out]; exact (C1.out.alloc _).setCells (.inr hsz1) 0 _
  obtain ⟨X, hX⟩ : ∃ X, X = bvs (Dk.pad bs) := ⟨_, rfl⟩
  have hXl : X.length = 64 := by rw [hX, length_bvs]; exact Dk.length_pad _ (by rw [← HN.out]; exact hn64)
  have hX1 : ∀ v ∈ X, v.oneCell' = true := by rw [hX]; exact one_bvs _
  rw [← hX] at HX2
  have hk64 : (k : Int) < (d.now.length : Int) := hat'
  have hc1 : w2.cell? ⟨g, 1, none⟩ = some (.slice (some ⟨gn, 0, none⟩) d.now.length cn) := HB2.cell 1
  have hr : w2.rangeAt w1.heap.size 0 X := HX2.range 0 X (fun j v hv => by simpa using hv)
  have ht : w2.there gn (k * 64) 64 := own_there HN2 _ _ (by omega)
  have hu := Try.underlying75
  have hi : (Try.prog.info? 75).map (·.size) = some X.length := by rw [Try.infoS, hXl]
  have hgne : g ≠ gn := fun e => own_ne_blk H.out.now H.out.blk (by decide) gn rfl e.symm
  have HX := Lib.hid hX
  have HXL := Lib.hid hXl
  clear hX hfr hth hs1'
  go_region_held3 (fun w' => w'.cell? ⟨g, 1, none⟩ = some (.slice (some ⟨gn, 0, none⟩) d.now.length cn) ∧ w'.rangeAt w1.heap.size 0 X ∧ w'.there gn (k * 64) 64)
    ((go_split_ands
      simp only [World.rangeAt_drew, World.there_drew] at *
      (repeat' constructor) <;> first
        | assumption
        | (refine (World.cell?_setCells_out _ _ _ _ _ (fun h => absurd h hgne)).trans ?_; assumption)
        | (apply World.there_setCells; assumption)
        | (refine World.rangeAt_setCells_apart (by assumption) _ _ _ (.inl (Ne.symm hnx))))) (fail)
  obtain ⟨w3, hw3⟩ : ∃ w3, w3 = w2.drew.setCells gn (k * 64) X := ⟨_, rfl⟩
  rw [← hw3]
  have HX3 : Blk w3 w1.heap.size 75 X.toArray := by rw [hw3]; exact HX2.drew.farCells (Ne.symm hnx) _
  have HB3 : DBlk w3 g (Dk.spent d) vd (.slice (some ⟨gn, 0, none⟩) d.now.length cn) (.slice Aw d.wr.length cw) := by rw [hw3]; exact HB2.drew.farCells hgne _
  have HW3 : w3.ownsRow base 77 65 (.slice Aw d.wr.length cw) d.wr.length (wrs d.wr) := by
    rw [hw3]
    exact ((Chg.refl (· = gn) w2).drew.setCells (.inl rfl) _ _).own HW2 (fun k hk e => own_ne_own HW2 HN2 (by decide) k gn hk rfl e)
  have hc2 : w3.cell? ⟨g, 2, none⟩ = some (.slice Aw d.wr.length cw) := HB3.cell 2
  have hf2 : w3.frozen? ⟨g, 2, none⟩ = false := HB3.frozen 2
  have hr3 : w3.rangeAt w1.heap.size 0 X := HX3.range 0 X (fun j v hv => by simpa using hv)
  have HN3 : w3.ownsRow base 75 64 (.slice (some ⟨gn, 0, none⟩) d.now.length cn) d.now.length (secs (d.now.set k (Dk.pad bs))) := by
    rw [hw3, ← secs_set _ (by rw [← length_bvs, ← HX.out]; exact HXL.out) _ _ H.out.ok.now64 (by omega), ← HX.out]
    exact own_setCells (((Chg.refl (fun _ => False) w2).drew).own HN2 (fun _ _ h => h)) _ _ (by rw [HXL.out]; omega)
  have HD3 : w3.ownsRow base 75 64 vd d.dur.length (secs d.dur) := by
    rw [hw3]
    exact ((Chg.refl (· = gn) w2).drew.setCells (.inl rfl) _ _).own HD2 (fun k hk e => H.out.two (by rw [hk, e]; rfl))
  have C03 : Chg (fun i => i = g ∨ gn = i) w w3 := by
    rw [hw3]
    exact ((C2.mono (fp' := fun i => i = g ∨ gn = i) (fun _ _ h => .inl h)).drew).setCells (.inl (.inr rfl)) _ _
  have HW3' := Lib.hid HW3
  have HN3' := Lib.hid HN3
  have HD3' := Lib.hid HD3
  have C03' := Lib.hid C03
  have HNW : ∀ j u, (.int .i64 (k : Int) :: X)[j]? = some u → (w3.drew.alloc (.cells (.int .i64 (k : Int) :: X).toArray 77)).cell? ((⟨w3.heap.size, 0, none⟩ : Addr).add j) = some u := by
    have := World.news_of_block (cs := (.int .i64 (k : Int) :: X).toArray) (t := 77) (fr := (0, 0)) (heap_alloc_new w3.drew (.cells (.int .i64 (k : Int) :: X).toArray 77))
    simpa using this
  have HW := Lib.hid hw3
  have HBASE : base ≤ w3.heap.size + 1 := by
    have h1 := HB3.lt
    have h2 := H.out.low
    omega
  clear hw3 HW3 HN3 HD3 C03 hc1 hr ht hu hat hat'
  go_wp2_with fail
  refine wp_region_R (RL [(4, fun w' => w'.cell? ⟨g, 2, none⟩ = some (.slice Aw d.wr.length cw)), (6, fun w' => w'.rangeAt w1.heap.size 0 X)]) (by kernel_rfl) (RL_cons hc2 (RL_cons (by simpa using hr3) (RL_nil _))) (fun hp => ?_)
  refine wpAnyR_take (i := 0) (oi := ⟨some 41, _, _, _, _, _⟩) (v := ?_) rfl (by kernel_rfl) (by kernel_rfl) (by kernel_rfl) (fun _ _ _ h => h) hp (.inl ⟨by rfl, fun w _ => ?_⟩) (fun hq => ?_)
  rotate_left
  · go_simp
    with_reducible rfl
  clear hp; have hp := hq; clear hq
  try simp only [Act.put, List.setIfInBounds_toArray, List.set_cons_zero, List.set_cons_succ]
  refine wpAnyR_take (i := 1) (oi := ⟨some 42, _, _, _, _, _⟩) (v := ?_) rfl (by kernel_rfl) (by kernel_rfl) (by kernel_rfl) (fun _ _ _ h => h) hp (.inl ⟨by rfl, fun w _ => ?_⟩) (fun hq => ?_)
  rotate_left
  · go_simp
    with_reducible rfl
  clear hp; have hp := hq; clear hq
  try simp only [Act.put, List.setIfInBounds_toArray, List.set_cons_zero, List.set_cons_succ]
  refine wpAnyR_take (i := 2) (oi := ⟨some 43, _, _, _, _, _⟩) (v := ?_) rfl (by kernel_rfl) (by kernel_rfl) (by kernel_rfl) (fun _ _ _ h => h) hp (.inl ⟨by rfl, fun w _ => ?_⟩) (fun hq => ?_)
  rotate_left
  · go_simp
    with_reducible rfl
  clear hp; have hp := hq; clear hq
  try simp only [Act.put, List.setIfInBounds_toArray, List.set_cons_zero, List.set_cons_succ]
  refine wpAnyR_take (i := 3) (oi := ⟨some 44, _, _, _, _, _⟩) (v := ?_) rfl (by kernel_rfl) (by kernel_rfl) (by kernel_rfl) (fun _ _ _ h => h) hp (.inl ⟨by rfl, fun w _ => ?_⟩) (fun hq => ?_)
  rotate_left
  · go_simp
    with_reducible rfl
  clear hp; have hp := hq; clear hq
  try simp only [Act.put, List.setIfInBounds_toArray, List.set_cons_zero, List.set_cons_succ]
  refine wpAnyR_take (i := 4) (oi := ⟨some 45, _, _, _, _, _⟩) (v := ?_) rfl (by kernel_rfl) (by kernel_rfl) (by kernel_rfl) (fun _ _ _ h => h) hp (.inl ⟨by rfl, fun w hR => ?_⟩) (fun hq => ?_)
  rotate_left
  · have hR := hR.1 rfl
    (try dsimp only at hR)
    go_simp
    with_reducible rfl
  clear hp; have hp := hq; clear hq
  try simp only [Act.put, List.setIfInBounds_toArray, List.set_cons_zero, List.set_cons_succ]
  refine wpAnyR_take (i := 5) (oi := ⟨some 46, _, _, _, _, _⟩) (v := ?_) rfl (by kernel_rfl) (by kernel_rfl) (by kernel_rfl) (fun _ _ _ h => h) hp (.inl ⟨by rfl, fun w _ => ?_⟩) (fun hq => ?_)
  rotate_left
  · go_simp
    with_reducible rfl
  clear hp; have hp := hq; clear hq
  try simp only [Act.put, List.setIfInBounds_toArray, List.set_cons_zero, List.set_cons_succ]
  refine wpAnyR_take (i := 6) (oi := ⟨some 47, _, _, _, _, _⟩) rfl (by kernel_rfl) (by kernel_rfl) (by kernel_rfl) (fun _ _ _ h => h) hp (yieldsIf_load_mid (by rfl) _ _ rfl w1.heap.size 0 rfl X _ (fun w hR => hR.2.1 rfl) Try.underlying75 rfl hi) (fun hq => ?_)
  clear hp; have hp := hq; clear hq
  try simp only [Act.put, List.setIfInBounds_toArray, List.set_cons_zero, List.set_cons_succ]
  refine wpAnyR_take (i := 7) (oi := ⟨some 48, _, _, _, _, _⟩) (v := ?_) rfl (by kernel_rfl) (by kernel_rfl) (by kernel_rfl) (fun _ _ _ h => h) hp (.inl ⟨by rfl, fun w _ => ?_⟩) (fun hq => ?_)
  rotate_left
  · refine exec_buildP (X := X) (x := .tmp 46) (y := .tmp 47) _ _ (k : Int) ?_ ?_ ?_ HXL.out w <;> rfl
  clear hp; have hp := hq; clear hq
  try simp only [Act.put, List.setIfInBounds_toArray, List.set_cons_zero, List.set_cons_succ]
  refine wpAnyR_step (i := 8) (o := ⟨some 49, _, _, _, _, _⟩) (by kernel_rfl) rfl (by rfl) (fun K hK => ?_) -- Op.buildSlice 71 1 #[(0, Operand.tmp 48)]
  refine wp_buildSliceP _ rfl rfl (by simp [HXL.out]) ?_
  have hS4 : (w3.drew.alloc (.cells (.int .i64 (k : Int) :: X).toArray 77)).cell? ⟨g, 2, none⟩ = some (.slice Aw d.wr.length cw) := by rw [World.cell?_alloc_some _ _ _ (by simp [hc2])]; exact hc2
  have hS6 : (w3.drew.alloc (.cells (.int .i64 (k : Int) :: X).toArray 77)).rangeAt w1.heap.size 0 X := World.rangeAt_alloc (by simpa using hr3) _
  refine hK _ _ (pend_on hS4 (pend_on hS6 pend_nil)) (fun hq => ?_)
  clear hp hK K; have hp := hq; clear hq
  try simp only [Act.put, List.setIfInBounds_toArray, List.set_cons_zero, List.set_cons_succ]
  refine wpAnyR_step (i := 9) (o := ⟨some 50, _, _, _, _, _⟩) (by kernel_rfl) rfl (by rfl) (fun K hK => ?_) -- Op.call { callee := Callee.builtin Builtin.append, args := #[Operand.tmp 45, Operand.tmp 49], argTypes := #[71
  refine wp_append_lies _ _ _ _ rfl base 77 i0 _ 65 72 Try.underlying71 hi0 hz0 hz1 hz2 (by rfl) (by omega) _ _ _ rfl (HW3'.out.drew.alloc _) ⟨w3.heap.size, 0, none⟩ 1 1 (.int .i64 (k : Int) :: X) rfl (by simp [HXL.out]) HNW ?h1 (by omega) ?h2 ?h3 ?h4 (w3.heap.size + 1) (by simp) ?_
  case h1 =>
    intro u hu
    rcases List.mem_cons.1 hu with rfl | hu
    · rfl
    · exact hX1 u hu
  case h2 => exact HROOM.1
  case h3 => exact HROOM.2
  case h4 => rw [show ((w3.drew.alloc (.cells (.int .i64 (k : Int) :: X).toArray 77)).heap.size) = w3.heap.size + 1 from by simp]; exact HBASE
  intro gw cw' w4 hown hgrow hat' hlt
  have C34 : Chg (fun i => (Value.slice Aw d.wr.length cw).ownBlock = some i) w3 w4 := ((Chg.refl _ w3).drew.alloc _).trans (Chg.of_grownBy (fp := fun i => (Value.slice Aw d.wr.length cw).ownBlock = some i) hgrow (fun k hk => .inl hk)) (fun i hi => .inl hi)
  have HB4 : DBlk w4 g (Dk.spent d) vd (.slice (some ⟨gn, 0, none⟩) d.now.length cn) (.slice Aw d.wr.length cw) := C34.blk HB3 (fun e => own_ne_blk HW3'.out HB3 (by decide) g e rfl)
  have hc4 : w4.cell? ⟨g, 2, none⟩ = some (.slice Aw d.wr.length cw) := HB4.cell 2
  have hf4 : w4.frozen? ⟨g, 2, none⟩ = false := HB4.frozen 2
  have HX4 : Blk w4 w1.heap.size 75 X.toArray := C34.blk HX3 (fun e => own_ne_blk HW3'.out HX3 (by decide) _ e rfl)
  have hS6 : w4.rangeAt w1.heap.size 0 X := HX4.range 0 X (fun j v hv => by simpa using hv)
  refine hK _ _ (pend_off (by kernel_rfl) (pend_on hS6 pend_nil)) (fun hq => ?_)
  clear hp hK K; have hp := hq; clear hq
  try simp only [Act.put, List.setIfInBounds_toArray, List.set_cons_zero, List.set_cons_succ]
  refine wpAnyR_take (i := 10) (oi := ⟨some 51, _, _, _, _, _⟩) (v := ?_) rfl (by kernel_rfl) (by kernel_rfl) (by kernel_rfl) (fun _ _ _ h => h) hp (.inl ⟨by rfl, fun w _ => ?_⟩) (fun hq => ?_)
  rotate_left
  · go_simp
    with_reducible rfl
  clear hp; have hp := hq; clear hq
  try simp only [Act.put, List.setIfInBounds_toArray, List.set_cons_zero, List.set_cons_succ]
  refine wpAnyR_take (i := 11) (oi := ⟨some 52, _, _, _, _, _⟩) (v := ?_) rfl (by kernel_rfl) (by kernel_rfl) (by kernel_rfl) (fun _ _ _ h => h) hp (.inl ⟨by rfl, fun w _ => ?_⟩) (fun hq => ?_)
  rotate_left
  · go_simp
    with_reducible rfl
  clear hp; have hp := hq; clear hq
  try simp only [Act.put, List.setIfInBounds_toArray, List.set_cons_zero, List.set_cons_succ]
  refine wpAnyR_step (i := 12) (o := ⟨none, _, _, _, _, _⟩) (by kernel_rfl) rfl (by rfl) (fun K hK => ?_) -- Op.store 71 (Operand.tmp 52) (Operand.tmp 50)
  go_simp
  refine hK _ _ (pend_off (by kernel_rfl) (pend_off (by kernel_rfl) pend_nil)) (fun hq => ?_)
  clear hp hK K; have hp := hq; clear hq
  try simp only [Act.put]
  refine wpAnyR_done (by kernel_rfl) ?_ _
  clear hp
  go_wp2
  go_ret
  have hdn : d.down = false := HDN.out
  have hat : ¬ ((k : Int) < 0 ∨ (d.now.length : Int) ≤ k) := by omega
  have h64 : ¬ 64 < bs.length := by rw [← HN.out]; omega
  have e1 : Dk.write d (k : Int) bs = Dk.wrote (Dk.spent d) k (Dk.pad bs) := by
    unfold Dk.write
    rw [hdn, hsp, if_neg (by decide), if_neg hat, if_neg h64, if_pos rfl, Int.toNat_natCast]
  have e2 : Dk.writeErr d (k : Int) bs.length = 0 := by
    unfold Dk.writeErr
    rw [hdn, hsp, if_neg (by decide), if_neg hat, if_neg h64, if_pos rfl]
  rw [e2]
  refine ⟨rfl, ?_⟩
  have HB5 := HB4.put 2 (Value.slice (some { block := gw, off := 0 }) (d.wr.length + 1) cw')
  have C5 : Chg (· = g) w4 (w4.setCell ⟨g, 2, none⟩ (Value.slice (some { block := gw, off := 0 }) (d.wr.length + 1) cw')) := (Chg.refl (· = g) w4).setCell (p := ⟨g, 2, none⟩) (.inl rfl) _
  rw [e1]
  have hap : ∀ k, (Value.slice Aw d.wr.length cw).ownBlock = some k → k ≠ gn := fun k hk e => own_ne_own HW3'.out HN3'.out (by decide) k gn hk rfl e
  refine ⟨.slice (some ⟨gw, 0, none⟩) (d.wr.length + 1) cw', ⟨?_, H.out.low, ?_, ?_, ?_, H.out.two, ?_⟩, ?_, ?_⟩
  · exact HB5
  · rw [show (Dk.wrote (Dk.spent d) k (Dk.pad bs)).dur = d.dur from Dk.spent_dur d]
    refine C5.own (C34.own HD3'.out (fun k hk e => own_ne_own HW3'.out HD3'.out (by decide) k k e hk rfl)) (fun k hk e => own_ne_blk H.out.dur H.out.blk (by decide) k hk e)
  · rw [show (Dk.wrote (Dk.spent d) k (Dk.pad bs)).now = d.now.set k (Dk.pad bs) from by simp [Dk.wrote, Dk.spent_now], List.length_set]
    exact C5.own (C34.own HN3'.out (fun k hk e => hap k e (by cases hk; rfl))) (fun k hk e => by cases hk; exact hgne e.symm)
  · rw [show (Dk.wrote (Dk.spent d) k (Dk.pad bs)).wr = d.wr ++ [(k, Dk.pad bs)] from by simp [Dk.wrote, Dk.spent_wr], List.length_append, wrs_snoc, ← HX.out]
    exact C5.own hown (fun k hk e => by cases hk; exact own_ne_blk hown HB4 (by decide) gw rfl e)
  · rw [← e1]; exact Dk.write_ok H.out.ok _ _
  · refine ((C03'.out.mono (fp' := fun i => i = g ∨ (Value.slice (some ⟨gn, 0, none⟩) d.now.length cn).ownBlock = some i ∨ (Value.slice Aw d.wr.length cw).ownBlock = some i) (fun i _ h => h.imp id (fun e => .inl (by rw [← e]; rfl)))).trans C34 (fun i hi => .inl (.inr (.inr hi)))).setCell (p := ⟨g, 2, none⟩) (.inl (.inl rfl)) _
  · rcases hat' with h | h
    · exact .inl h.symm
    · exact .inr ⟨gw, rfl, by have := C03'.out.size; omega⟩

end Go.Proofs.Ytdnjelggdjimhaa
