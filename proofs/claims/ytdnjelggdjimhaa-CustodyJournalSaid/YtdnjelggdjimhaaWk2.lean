/-
  The walks of the disk's functions, continued: Write in every case, NewDisk, Read, Stop, Down.
-/
import Derived.Test.YtdnjelggdjimhaaWk1
namespace Go.Proofs.Ytdnjelggdjimhaa
open Go.RowKit

/-- The blocks that a disk takes. -/
def fpD (g : Nat) (vd vn vw : Value) : Nat → Prop := fun k => k = g ∨ vd.ownBlock = some k ∨ vn.ownBlock = some k ∨ vw.ownBlock = some k

theorem DiskAt.of_blk {w w' : World} {base g : Nat} {d d' : Dk.D} {vd vn vw : Value} (h : DiskAt w base g d vd vn vw) (hb : DBlk w' g d' vd vn vw) (hc : Chg (· = g) w w')
    (h1 : d'.dur = d.dur) (h2 : d'.now = d.now) (h3 : d'.wr = d.wr) (hok : Dk.Ok d') : DiskAt w' base g d' vd vn vw := by
  refine ⟨hb, h.low, ?_, ?_, ?_, h.two, hok⟩
  · rw [h1]; exact hc.own h.dur (fun k hk e => own_ne_blk h.dur h.blk (by decide) k hk e)
  · rw [h2]; exact hc.own h.now (fun k hk e => own_ne_blk h.now h.blk (by decide) k hk e)
  · rw [h3]; exact hc.own h.wr (fun k hk e => own_ne_blk h.wr h.blk (by decide) k hk e)

set_option maxHeartbeats 400000 in
theorem write_down (g : Nat) (w : World) (v b : Value) (hc3 : w.cell? ⟨g, 3, none⟩ = some (.bool true)) :
    Calls Try.prog 10 #[.pointer (some ⟨g, 0, none⟩), v, b] w fun e w' => e = .returned (.int .i64 70) ∧ w = w' := by
  go_enter Try.func10, Try.ntmps10
  go_wp2_with (go_at_call 29; refine (up_calls g _ true (by assumption)).mono ?_; rintro e w' ⟨rfl, rfl⟩)
  go_ret
  exact ⟨rfl, rfl⟩

set_option maxHeartbeats 400000 in
theorem write_neg (g : Nat) (w : World) (at_ : Int) (b : Value) (hc3 : w.cell? ⟨g, 3, none⟩ = some (.bool false)) (hat : at_ < 0) :
    Calls Try.prog 10 #[.pointer (some ⟨g, 0, none⟩), .int .i64 at_, b] w fun e w' => e = .returned (.int .i64 1) ∧ w = w' := by
  have hd : decide (at_ < 0) = true := by simpa using hat
  go_enter Try.func10, Try.ntmps10
  go_wp2_with (go_at_call 29; refine (up_calls g _ false (by assumption)).mono ?_; rintro e w' ⟨rfl, rfl⟩)
  go_ret
  exact ⟨rfl, rfl⟩

set_option maxHeartbeats 400000 in
theorem write_out (g : Nat) (w : World) (at_ : Int) (A : Option Addr) (n c : Nat) (b : Value) (hc3 : w.cell? ⟨g, 3, none⟩ = some (.bool false)) (hc1 : w.cell? ⟨g, 1, none⟩ = some (.slice A n c)) (hat : 0 ≤ at_) (hat' : (n : Int) ≤ at_) :
    Calls Try.prog 10 #[.pointer (some ⟨g, 0, none⟩), .int .i64 at_, b] w fun e w' => e = .returned (.int .i64 1) ∧ w = w' := by
  have hd : decide (at_ < 0) = false := by simpa using hat
  go_enter Try.func10, Try.ntmps10
  go_wp2_with (go_at_call 29; refine (up_calls g _ false (by assumption)).mono ?_; rintro e w' ⟨rfl, rfl⟩)
  go_ret
  exact ⟨rfl, rfl⟩

set_option maxHeartbeats 400000 in
theorem write_long (g : Nat) (w : World) (at_ : Int) (A : Option Addr) (n c : Nat) (B : Option Addr) (m k : Nat) (hc3 : w.cell? ⟨g, 3, none⟩ = some (.bool false)) (hc1 : w.cell? ⟨g, 1, none⟩ = some (.slice A n c)) (hat : 0 ≤ at_) (hat' : at_ < (n : Int)) (hm : 64 < m) :
    Calls Try.prog 10 #[.pointer (some ⟨g, 0, none⟩), .int .i64 at_, .slice B m k] w fun e w' => e = .returned (.int .i64 2) ∧ w = w' := by
  have hd : decide (at_ < 0) = false := by simpa using hat
  have hm' : (64 : Int) < (m : Int) := by omega
  go_enter Try.func10, Try.ntmps10
  go_wp2_with (go_at_call 29; refine (up_calls g _ false (by assumption)).mono ?_; rintro e w' ⟨rfl, rfl⟩)
  go_ret
  exact ⟨rfl, rfl⟩

set_option maxHeartbeats 400000 in
theorem write_fail (g : Nat) (w : World) (d : Dk.D) (vd : Value) (at_ : Int) (A : Option Addr) (n c : Nat) (vw : Value) (B : Option Addr) (m k : Nat) (h : DBlk w g d vd (.slice A n c) vw) (hl : d.left ≤ 9223372036854775807) (hd : d.down = false) (hat : 0 ≤ at_) (hat' : at_ < (n : Int)) (hm : m ≤ 64) (hsp : Dk.spends d = false) :
    Calls Try.prog 10 #[.pointer (some ⟨g, 0, none⟩), .int .i64 at_, .slice B m k] w fun e w' => e = .returned (.int .i64 70) ∧ DBlk w' g (Dk.spent d) vd (.slice A n c) vw ∧ Chg (· = g) w w' := by
  have hdd : decide (at_ < 0) = false := by simpa using hat
  have hm' : (m : Int) ≤ 64 := by omega
  have hc3 : w.cell? ⟨g, 3, none⟩ = some (.bool false) := by rw [← hd]; exact h.cell 3
  have hc1 : w.cell? ⟨g, 1, none⟩ = some (.slice A n c) := h.cell 1
  have H := Lib.hid h
  clear h hd
  go_enter Try.func10, Try.ntmps10
  go_wp2_with (first | (go_at_call 29; refine (up_calls g _ false (by assumption)).mono ?_; rintro e w' ⟨rfl, rfl⟩) | fail)
  refine (spend_calls g _ d _ _ _ H.out hl).mono ?_
  rw [hsp]
  rintro e w1 ⟨rfl, hb1, hch1⟩
  have H1 := Lib.hid hb1
  have C1 := Lib.hid hch1
  clear hb1 hch1
  go_wp2
  go_ret
  exact ⟨rfl, H1.out, C1.out⟩

/-- Write, in every case. -/
theorem write_any (g base : Nat) (w : World) (d : Dk.D) (vd vn vw : Value) (at_ : Int) (A : Option Addr) (n c : Nat) (bs : List UInt8) (h : DiskAt w base g d vd vn vw) (hn : n = bs.length)
    (hs : SrcAt w A (bvs bs)) (hne : bs ≠ [] → ∀ ad, A = some ad → ad.block ≠ g) (HROOM : d.wr.length + 1 ≤ maxLen ∧ (d.wr.length + 1) * 72 ≤ 140737488355328) :
    Calls Try.prog 10 #[.pointer (some ⟨g, 0, none⟩), .int .i64 at_, .slice A n c] w fun e w' => e = .returned (.int .i64 (Dk.writeErr d at_ bs.length)) ∧ Wrote g base (Dk.write d at_ bs) vd vn vw w w' := by
  have same : ∀ e w' d', d' = d → w = w' → e = Ending.returned (.int .i64 (Dk.writeErr d at_ bs.length)) → e = Ending.returned (.int .i64 (Dk.writeErr d at_ bs.length)) ∧ Wrote g base d' vd vn vw w w' := by
    rintro e w' d' rfl rfl he
    exact ⟨he, vw, h, Chg.refl _ _, .inl rfl⟩
  have hc3 : w.cell? ⟨g, 3, none⟩ = some (.bool d.down) := h.blk.cell 3
  cases hdn : d.down
  case true =>
    rw [hdn] at hc3
    refine (write_down g w _ _ hc3).mono fun e w' hh => same e w' _ (by simp [Dk.write, hdn]) hh.2 ?_
    rw [hh.1]; simp [Dk.writeErr, hdn]
  rw [hdn] at hc3
  have hdn' : ¬ d.down = true := by simp [hdn]
  obtain ⟨gn, cn, rfl, _⟩ := own_form h.now (by have := h.ok.many; omega)
  have hc1 : w.cell? ⟨g, 1, none⟩ = some (.slice (some ⟨gn, 0, none⟩) d.now.length cn) := h.blk.cell 1
  by_cases h1 : at_ < 0
  · refine (write_neg g w at_ _ hc3 h1).mono fun e w' hh => same e w' _ (by simp [Dk.write, h1]) hh.2 ?_
    rw [hh.1]; simp [Dk.writeErr, hdn, h1]
  by_cases h2 : (d.now.length : Int) ≤ at_
  · refine (write_out g w at_ _ _ _ _ hc3 hc1 (by omega) h2).mono fun e w' hh => same e w' _ (by simp [Dk.write, h2]) hh.2 ?_
    rw [hh.1]; simp [Dk.writeErr, hdn, h2]
  have h12 : ¬ (at_ < 0 ∨ (d.now.length : Int) ≤ at_) := by omega
  by_cases h3 : 64 < n
  · have h3' : 64 < bs.length := by omega
    refine (write_long g w at_ _ _ _ A n c hc3 hc1 (by omega) (by omega) h3).mono fun e w' hh => same e w' _ ?_ hh.2 ?_
    · unfold Dk.write; rw [if_neg hdn', if_neg h12, if_pos h3']
    · rw [hh.1]; unfold Dk.writeErr; rw [if_neg hdn', if_neg h12, if_pos h3']
  have h3' : ¬ 64 < bs.length := by omega
  cases hsp : Dk.spends d
  case true => exact write_calls g base w d vd _ vw at_ A n c bs h hdn (by omega) (by omega) hn (by omega) hs hne hsp HROOM
  refine (write_fail g w d vd at_ _ _ _ vw A n c h.blk h.ok.left hdn (by omega) (by omega) (by omega) hsp).mono fun e w' hh => ?_
  have e1 : Dk.write d at_ bs = Dk.spent d := by unfold Dk.write; rw [if_neg hdn', if_neg h12, if_neg h3', hsp]; rfl
  have e2 : Dk.writeErr d at_ bs.length = 70 := by unfold Dk.writeErr; rw [if_neg hdn', if_neg h12, if_neg h3', hsp]; rfl
  rw [e1, e2]
  exact ⟨hh.1, vw, h.of_blk hh.2.1 hh.2.2 (Dk.spent_dur d) (Dk.spent_now d) (Dk.spent_wr d) (Dk.spent_ok h.ok), hh.2.2.mono (fun i _ hi => .inl hi), .inl rfl⟩

set_option maxHeartbeats 400000 in
theorem down_calls (g : Nat) (w : World) (down : Bool) (hc : w.cell? ⟨g, 3, none⟩ = some (.bool down)) :
    Calls Try.prog 14 #[.pointer (some ⟨g, 0, none⟩)] w fun e w' => e = .returned (.bool down) ∧ w = w' := by
  cases down
  all_goals
    go_enter Try.func14, Try.ntmps14
    go_wp2
    go_ret
    exact ⟨rfl, rfl⟩

set_option maxHeartbeats 400000 in
theorem stop_any (g base : Nat) (w : World) (d : Dk.D) (vd vn vw : Value) (calls : Int) (h : DiskAt w base g d vd vn vw) (hc : calls ≤ 9223372036854775807) :
    Calls Try.prog 23 #[.pointer (some ⟨g, 0, none⟩), .int .i64 calls] w fun e w' => e = .returned (.int .i64 (Dk.stopErr d calls)) ∧ DiskAt w' base g (Dk.stop d calls) vd vn vw ∧ Chg (· = g) w w' := by
  have hB := h.blk
  have hc3 : w.cell? ⟨g, 3, none⟩ = some (.bool d.down) := hB.cell 3
  have hc4 : w.cell? ⟨g, 4, none⟩ = some (.bool d.armed) := hB.cell 4
  have hc5 : w.cell? ⟨g, 5, none⟩ = some (.int .i64 (d.left : Int)) := hB.cell 5
  have hf4 := hB.frozen 4
  have hf5 := hB.frozen 5
  have H := Lib.hid h
  clear h hB
  cases hdn : d.down
  case true =>
    rw [hdn] at hc3
    have E := Lib.hid hdn
    clear hdn
    go_enter Try.func23, Try.ntmps23
    go_wp2_with (go_at_call 29; refine (up_calls g _ true (by assumption)).mono ?_; rintro e w' ⟨rfl, rfl⟩)
    go_ret
    refine ⟨by simp [Dk.stopErr, E.out], ?_, Chg.refl _ _⟩
    rw [show Dk.stop d calls = d from by simp [Dk.stop, E.out]]; exact H.out
  rw [hdn] at hc3
  have E := Lib.hid hdn
  clear hdn
  by_cases h1 : calls < 0
  · go_enter Try.func23, Try.ntmps23
    go_wp2_with (go_at_call 29; refine (up_calls g _ false (by assumption)).mono ?_; rintro e w' ⟨rfl, rfl⟩)
    go_ret
    refine ⟨by simp [Dk.stopErr, E.out, h1], ?_, Chg.refl _ _⟩
    rw [show Dk.stop d calls = d from by simp [Dk.stop, h1]]; exact H.out
  · obtain ⟨k, rfl⟩ : ∃ k : Nat, calls = k := ⟨calls.toNat, by omega⟩
    go_enter Try.func23, Try.ntmps23
    go_wp2_with (go_at_call 29; refine (up_calls g _ false (by assumption)).mono ?_; rintro e w' ⟨rfl, rfl⟩)
    go_ret
    have e : Dk.stop d (k : Int) = { d with armed := true, left := k } := by unfold Dk.stop; rw [E.out, if_neg (by decide), if_neg (by omega), Int.toNat_natCast]
    have hb := (H.out.blk.put 4 (.bool true)).put 5 (.int .i64 (k : Int))
    have hch := ((Chg.refl (· = g) w).setCell (p := ⟨g, 4, none⟩) (.inl rfl) (.bool true)).setCell (p := ⟨g, 5, none⟩) (.inl rfl) (.int .i64 (k : Int))
    refine ⟨by unfold Dk.stopErr; rw [E.out, if_neg (by decide), if_neg (by omega)]; rfl, ?_, hch⟩
    refine H.out.of_blk ?_ hch (by rw [e]) (by rw [e]) (by rw [e]) (Dk.stop_ok H.out.ok _ hc)
    rw [e]
    exact hb


/-- What Read leaves: where there is no error, the sector's bytes in a new block. -/
def ReadTo (d : Dk.D) (at_ : Int) (w : World) (e : Ending) (w' : World) : Prop :=
  Chg (fun _ => False) w w' ∧ ((Dk.readErr d at_ ≠ 0 ∧ e = .returned (.tuple #[.slice none 0 0, .int .i64 (Dk.readErr d at_)])) ∨
    (Dk.readErr d at_ = 0 ∧ ∃ b, e = .returned (.tuple #[.slice (some ⟨b, 0, none⟩) 64 64, .int .i64 0]) ∧ w.heap.size ≤ b ∧ Blk w' b 75 (bvs (d.now.getD at_.toNat Dk.zsec)).toArray))

set_option maxHeartbeats 400000 in
theorem read_any (g base : Nat) (w : World) (d : Dk.D) (vd vn vw : Value) (at_ : Int) (h : DiskAt w base g d vd vn vw) :
    Calls Try.prog 13 #[.pointer (some ⟨g, 0, none⟩), .int .i64 at_] w (ReadTo d at_ w) := by
  have hB := h.blk
  have hc3 : w.cell? ⟨g, 3, none⟩ = some (.bool d.down) := hB.cell 3
  cases hdn : d.down
  case true =>
    rw [hdn] at hc3
    have E := Lib.hid hdn
    clear hdn h hB
    go_enter Try.func13, Try.ntmps13
    go_wp2_with (go_at_call 29; refine (up_calls g _ true (by assumption)).mono ?_; rintro e w' ⟨rfl, rfl⟩)
    go_ret2
    have e : Dk.readErr d at_ = 70 := by simp [Dk.readErr, E.out]
    exact ⟨Chg.refl _ _, .inl ⟨by rw [e]; decide, by rw [e]; rfl⟩⟩
  rw [hdn] at hc3
  obtain ⟨gn, cn, rfl, hgn, hgn', hcn, hcm⟩ := own_form h.now (by have := h.ok.many; omega)
  have hc1 : w.cell? ⟨g, 1, none⟩ = some (.slice (some ⟨gn, 0, none⟩) d.now.length cn) := hB.cell 1
  have E := Lib.hid hdn
  have H := Lib.hid h
  clear hdn h hB
  by_cases h1 : at_ < 0
  · have hd : decide (at_ < 0) = true := by simpa using h1
    go_enter Try.func13, Try.ntmps13
    go_wp2_with (go_at_call 29; refine (up_calls g _ false (by assumption)).mono ?_; rintro e w' ⟨rfl, rfl⟩)
    go_ret2
    have e : Dk.readErr d at_ = 1 := by simp [Dk.readErr, E.out, h1]
    exact ⟨Chg.refl _ _, .inl ⟨by rw [e]; decide, by rw [e]; rfl⟩⟩
  have hd : decide (at_ < 0) = false := by simpa using h1
  by_cases h2 : (d.now.length : Int) ≤ at_
  · go_enter Try.func13, Try.ntmps13
    go_wp2_with (go_at_call 29; refine (up_calls g _ false (by assumption)).mono ?_; rintro e w' ⟨rfl, rfl⟩)
    go_ret2
    have e : Dk.readErr d at_ = 1 := by simp [Dk.readErr, E.out, h2]
    exact ⟨Chg.refl _ _, .inl ⟨by rw [e]; decide, by rw [e]; rfl⟩⟩
  obtain ⟨k, rfl⟩ : ∃ k : Nat, at_ = k := ⟨at_.toNat, by omega⟩
  have hk : (k : Int) < d.now.length := by omega
  have hk' : k < d.now.length := by omega
  obtain ⟨X, hX⟩ : ∃ X, X = bvs (d.now.getD k Dk.zsec) := ⟨_, rfl⟩
  have hXl : X.length = 64 := by rw [hX, length_bvs]; exact Dk.getD_64 H.out.ok.now64 k
  have hX1 : ∀ v ∈ X, v.oneCell' = true := by rw [hX]; exact one_bvs _
  have hr : w.rangeAt gn (k * 64) X := own_range H.out.now _ _ (fun j v hv => secs_get (k := k) (s := d.now.getD k Dk.zsec) H.out.ok.now64 (by simp [List.getD_eq_getElem?_getD, hk']) j v (by rw [← hX]; exact hv))
  have hi : (Try.prog.info? 75).map (·.size) = some X.length := by rw [Try.infoS, hXl]
  have HX := Lib.hid hX
  have HXL := Lib.hid hXl
  have HI := Lib.hid hi
  clear hX hXl hi
  go_enter Try.func13, Try.ntmps13
  go_wp2_with (first
    | (go_at_call 29; refine (up_calls g _ false (by assumption)).mono ?_; rintro e w' ⟨rfl, rfl⟩)
    | (with_reducible refine wpList_load_mid (op := ⟨some 30, _, _, _, _, _⟩) rfl _ _ rfl gn (k * 64) rfl X _ hr Try.underlying75 rfl HI.out ?_)
    | (with_reducible refine wpList_allocS (o := ⟨some 7, _, _, _, _, _⟩) rfl rfl ?_)
    | (with_reducible refine wpList_store_mid (op := ⟨none, _, _, _, _, _⟩) rfl 75 (.tmp 7) (.tmp 30) rfl w.heap.size 0 X.toArray rfl rfl ((Blk.fresh w 75 _).there_ 0 _ (by simp [zeros, HXL.out])) (by rw [List.size_toArray]; exact HI.out) (all_oneCell_toArray hX1) ?_))
  go_ret2
  have e : Dk.readErr d (k : Int) = 0 := by unfold Dk.readErr; rw [E.out, if_neg (by decide), if_neg (by omega)]
  refine ⟨((Chg.refl (fun _ => False) w).alloc _).setCells (.inr (Nat.le_refl _)) 0 X, .inr ⟨e, w.heap.size, rfl, Nat.le_refl _, ?_⟩⟩
  rw [Int.toNat_natCast, ← HX.out]
  have := (Blk.fresh w 75 (zeros 64).toArray).setCells (o := 0) (vs := X) (by simp [zeros, HXL.out])
  rw [show (splice (zeros 64).toArray.toList 0 X) = X from by simp only [splice]; rw [List.take_zero, List.nil_append, List.drop_eq_nil_of_le (by simp [zeros, HXL.out]), List.append_nil]] at this
  exact this

end Go.Proofs.Ytdnjelggdjimhaa
