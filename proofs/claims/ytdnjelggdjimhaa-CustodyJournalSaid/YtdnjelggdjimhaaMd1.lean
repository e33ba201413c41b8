/-
  The reference disk: what lies in memory, and the walks of its functions.
-/
import Derived.Test.YtdnjelggdjimhaaLw1
import Derived.Deep.LoopGhost
namespace Go.Proofs.Ytdnjelggdjimhaa
open Go.RowKit

/-- The string of some bytes. -/
def bs (l : List UInt8) : ByteArray := ⟨l.toArray⟩
theorem bs_size (l : List UInt8) : (bs l).size = l.length := by simp [bs, ByteArray.size]
theorem bs_append (a b : List UInt8) : bs a ++ bs b = bs (a ++ b) := by
  apply ByteArray.ext
  simp [bs]
theorem bs_data (l : List UInt8) : (bs l).data.toList = l := by simp [bs]
abbrev sv (l : List UInt8) : Value := .string (bs l)
def svs (l : List Dk.Sec) : List Value := l.map sv
def puts (l : List (Nat × Dk.Sec)) : List Value := l.flatMap fun p => [.int .i64 (p.1 : Int), sv p.2]

/-- How many calls succeed before the power fails; -1: it does not fail. -/
def leftOf (d : Dk.D) : Int := if d.armed then (d.left : Int) else -1

structure ModelAt (w : World) (base m : Nat) (d : Dk.D) (vd vp : Value) : Prop where
  blk : Blk w m 47 #[vd, vp, .int .i64 (leftOf d), .bool d.down]
  low : base ≤ m
  dur : w.ownsRow base 9 1 vd d.dur.length (svs d.dur)
  wr : w.ownsRow base 93 2 vp d.wr.length (puts d.wr)
  ok : Dk.Ok d
def fpM (m : Nat) (vd vp : Value) : Nat → Prop := fun k => k = m ∨ vd.ownBlock = some k ∨ vp.ownBlock = some k
def UpdM (base m : Nat) (vd vp : Value) (w : World) (d' : Dk.D) (w' : World) : Prop :=
  ∃ vd' vp', ModelAt w' base m d' vd' vp' ∧ Chg (fpM m vd vp) w w' ∧ ∀ k, fpM m vd' vp' k → fpM m vd vp k ∨ w.heap.size ≤ k

set_option maxHeartbeats 400000 in
theorem padded_calls (l : List UInt8) (h : l.length ≤ 64) (w : World) :
    Calls Try.prog 43 #[.string (bs l)] w fun e w' => e = .returned (.string (bs (Dk.pad l))) ∧ w = w' := by
  go_enter Try.func43, Try.ntmps43
  go_wp2_with fail
  go_loopg [0] (64 - l.length) (fun m s wr => ∃ k : Nat, m + k = 64 - l.length ∧ s = .string (bs (l ++ List.replicate k 0)) ∧ Hid (w = wr))
  case atStart => exact ⟨0, by omega, by simp, Lib.hid rfl⟩
  case round =>
    obtain ⟨k, hk, rfl, hw⟩ := hrel
    obtain ⟨S, hS⟩ : ∃ S, S = bs (l ++ List.replicate k 0) := ⟨_, rfl⟩
    have hz : S.size = l.length + k := by rw [hS, bs_size]; simp
    rw [← hS]
    have HS := Lib.hid hS
    have HK := Lib.hid hk
    clear hS hk
    by_cases hlt : l.length + k < 64
    · have hsum : S.size + 1 ≤ 9223372036854775807 := by omega
      go_wp2
      have hk := HK.out
      go_roundg (gk - 1)
      case measure => omega
      case rel =>
        refine ⟨k + 1, by omega, ?_, hw⟩
        rw [HS.out, show (⟨#[0]⟩ : ByteArray) = bs [0] from rfl, bs_append, List.append_assoc, List.replicate_succ']
    · go_wp2
      go_ret
      have hk := HK.out
      refine ⟨?_, hw.out⟩
      have : Value.string S = .string (bs (Dk.pad l)) := by rw [HS.out, show k = 64 - l.length from by omega]; rfl
      rw [← this]; rfl

set_option maxHeartbeats 400000 in
theorem mcall_calls (m : Nat) (w : World) (d : Dk.D) (vd vp : Value) (h : Blk w m 47 #[vd, vp, .int .i64 (leftOf d), .bool d.down]) (hl : d.left ≤ 9223372036854775807) (hd : d.down = false) :
    Calls Try.prog 44 #[.pointer (some ⟨m, 0, none⟩)] w fun e w' => e = .returned (.bool (Dk.spends d)) ∧ Blk w' m 47 #[vd, vp, .int .i64 (leftOf (Dk.spent d)), .bool (Dk.spent d).down] ∧ Chg (· = m) w w' := by
  obtain ⟨dur, now, wr, down, armed, left⟩ := d
  have hc2 := h.cell 2
  have hc3 := h.cell 3
  have hf2 := h.frozen 2
  have hf3 := h.frozen 3
  simp at hd hl
  subst hd
  have H := Lib.hid h
  clear h
  cases armed
  · have hc2' : w.cell? ⟨m, 2, none⟩ = some (.int .i64 (-1)) := hc2
    clear hc2
    go_enter Try.func44, Try.ntmps44
    go_wp2
    go_ret
    exact ⟨rfl, H.out, Chg.refl _ _⟩
  · have hc2' : w.cell? ⟨m, 2, none⟩ = some (.int .i64 (left : Int)) := hc2
    clear hc2
    by_cases h0 : left = 0
    · subst h0
      go_enter Try.func44, Try.ntmps44
      go_wp2
      go_ret
      refine ⟨rfl, ?_, (Chg.refl (· = m) w).setCell (p := ⟨m, 3, none⟩) (.inl rfl) _⟩
      exact H.out.put 3 _
    · have hlt : (0 : Int) < (left : Int) := by omega
      go_enter Try.func44, Try.ntmps44
      go_wp2
      go_ret
      have e : Dk.spent ⟨dur, now, wr, false, true, left⟩ = ⟨dur, now, wr, false, true, left - 1⟩ := by simp [Dk.spent, h0]
      rw [e]
      refine ⟨by simp [Dk.spends, h0], ?_, (Chg.refl (· = m) w).setCell (p := ⟨m, 2, none⟩) (.inl rfl) _⟩
      have := H.out.put 2 (.int .i64 ((left : Int) - 1))
      rw [show ((left : Int) - 1) = ((left - 1 : Nat) : Int) from by omega] at this ⊢
      exact this

theorem Try.infoStr : (Try.prog.info? 9).map (fun i => (i.zero, i.size, i.bytes)) = some (some (.string ⟨#[]⟩), 1, 16) := by kernel_rfl
theorem Try.infoPut : (Try.prog.info? 93).map (fun i => (i.zero, i.size, i.bytes)) = some (some (.agg #[.int .i64 0, .string ⟨#[]⟩]), 2, 24) := by kernel_rfl

theorem svs_snoc (l : List Dk.Sec) (x : Dk.Sec) : svs (l ++ [x]) = svs l ++ [sv x] := by simp [svs]
theorem puts_snoc (l : List (Nat × Dk.Sec)) (k : Nat) (x : Dk.Sec) : puts (l ++ [(k, x)]) = puts l ++ [.int .i64 (k : Int), sv x] := by simp [puts]

set_option maxHeartbeats 1000000 in
theorem mnew_yes (n : Nat) (w : World) (h1 : 16 ≤ n) (h2 : n ≤ 65536) :
    Calls Try.prog 31 #[.int .i64 n] w fun e w' => ∃ m vd vp, e = .returned (.tuple #[.pointer (some ⟨m, 0, none⟩), .int .i64 0]) ∧ ModelAt w' w.heap.size m (Dk.new n) vd vp ∧ Below w.heap.size w w' := by
  have hd : decide ((n : Int) < 16) = false := by simp; omega
  have hd2 : decide ((65536 : Int) < (n : Int)) = false := by simp; omega
  obtain ⟨i0, hi0, hz0, hz1, hz2⟩ := info_parts Try.infoStr
  have HI0 := Lib.hid (And.intro hi0 (And.intro hz0 (And.intro hz1 hz2)))
  clear hi0 hz0 hz1 hz2
  have HP := Lib.hid (padded_calls [] (by simp))
  go_enter Try.func31, Try.ntmps31
  go_wp2_with fail
  go_loopg [5] n (fun q i wr => ∃ k : Nat, q + k = n ∧ i = .int .i64 k ∧ Hid (∃ vd, Blk wr w.heap.size 47 #[vd, .slice none 0 0, .int .i64 (-1), .bool false] ∧ wr.ownsRow w.heap.size 9 1 vd k (svs (List.replicate k Dk.zsec)) ∧ Below w.heap.size w wr))
  case atStart => exact ⟨0, by omega, rfl, Lib.hid ⟨.slice none 0 0, Blk.fresh w _ _, World.ownsRow_nil _ _ _ _, (Below.refl _ _).alloc (Nat.le_refl _) _⟩⟩
  case round =>
    obtain ⟨k, hk, rfl, hR⟩ := hrel
    have HK := Lib.hid hk
    by_cases hlt : k < n
    · obtain ⟨vd, hb, ho, hB⟩ := hR.out
      obtain ⟨A, c, rfl, hkc, hcm⟩ := own_shape ho
      have hc0 : wr.cell? ⟨w.heap.size, 0, none⟩ = some (.slice A k c) := hb.cell 0
      have hsz := hb.lt
      have hba : w.heap.size ≤ wr.heap.size + 1 := by omega
      have HO := Lib.hid ho
      have HB := Lib.hid hb
      have HBe := Lib.hid hB
      clear hk hR ho hb hB
      go_wp2_with fail
      refine wp_region_R (RL [(4, fun w' => w'.cell? ⟨w.heap.size, 0, none⟩ = some (.slice A k c))]) (by kernel_rfl) (RL_cons hc0 (RL_nil _)) (fun hp => ?_)
      refine wpAnyR_take (i := 0) (oi := ⟨some 19, _, _, _, _, _⟩) (v := ?_) rfl (by kernel_rfl) (by kernel_rfl) (by kernel_rfl) (fun _ _ _ h => h) hp (.inl ⟨by rfl, fun w _ => ?_⟩) (fun hq => ?_)
      rotate_left
      · go_simp
        with_reducible rfl
      clear hp; have hp := hq; clear hq
      try simp only [Act.put, List.setIfInBounds_toArray, List.set_cons_zero, List.set_cons_succ]
      refine wpAnyR_take (i := 1) (oi := ⟨some 20, _, _, _, _, _⟩) (v := ?_) rfl (by kernel_rfl) (by kernel_rfl) (by kernel_rfl) (fun _ _ _ h => h) hp (.inl ⟨by rfl, fun w _ => ?_⟩) (fun hq => ?_)
      rotate_left
      · go_simp
        with_reducible rfl
      clear hp; have hp := hq; clear hq
      try simp only [Act.put, List.setIfInBounds_toArray, List.set_cons_zero, List.set_cons_succ]
      refine wpAnyR_take (i := 2) (oi := ⟨some 21, _, _, _, _, _⟩) (v := ?_) rfl (by kernel_rfl) (by kernel_rfl) (by kernel_rfl) (fun _ _ _ h => h) hp (.inl ⟨by rfl, fun w _ => ?_⟩) (fun hq => ?_)
      rotate_left
      · go_simp
        with_reducible rfl
      clear hp; have hp := hq; clear hq
      try simp only [Act.put, List.setIfInBounds_toArray, List.set_cons_zero, List.set_cons_succ]
      refine wpAnyR_take (i := 3) (oi := ⟨some 22, _, _, _, _, _⟩) (v := ?_) rfl (by kernel_rfl) (by kernel_rfl) (by kernel_rfl) (fun _ _ _ h => h) hp (.inl ⟨by rfl, fun w _ => ?_⟩) (fun hq => ?_)
      rotate_left
      · go_simp
        with_reducible rfl
      clear hp; have hp := hq; clear hq
      try simp only [Act.put, List.setIfInBounds_toArray, List.set_cons_zero, List.set_cons_succ]
      refine wpAnyR_take (i := 4) (oi := ⟨some 23, _, _, _, _, _⟩) (v := ?_) rfl (by kernel_rfl) (by kernel_rfl) (by kernel_rfl) (fun _ _ _ h => h) hp (.inl ⟨by rfl, fun w hR => ?_⟩) (fun hq => ?_)
      rotate_left
      · have hR := hR.1 rfl
        (try dsimp only at hR)
        go_simp
        with_reducible rfl
      clear hp; have hp := hq; clear hq
      try simp only [Act.put, List.setIfInBounds_toArray, List.set_cons_zero, List.set_cons_succ]
      refine wpAnyR_step (i := 5) (o := ⟨some 24, _, _, _, _, _⟩) (by kernel_rfl) rfl (by rfl) (fun K hK => ?_) -- Op.call { callee := Callee.value (Operand.func 43), args := #[Operand.const (Value.string { data := #[] })], a
      go_simp
      refine (HP.out _).mono ?_
      rintro e w' ⟨rfl, rfl⟩
      show K _ _
      have hS4 : wr.drew.cell? ⟨w.heap.size, 0, none⟩ = some (.slice A k c) := by simpa using hc0
      refine hK _ _ (pend_on hS4 pend_nil) (fun hq => ?_)
      clear hp hK K; have hp := hq; clear hq
      try simp only [Act.put, List.setIfInBounds_toArray, List.set_cons_zero, List.set_cons_succ]
      refine wpAnyR_step (i := 6) (o := ⟨some 25, _, _, _, _, _⟩) (by kernel_rfl) rfl (by rfl) (fun K hK => ?_) -- Op.buildSlice 44 1 #[(0, Operand.tmp 24)]
      go_simp
      have hS4 : (wr.drew.alloc (.cells #[.string (bs (Dk.pad []))] 9)).cell? ⟨w.heap.size, 0, none⟩ = some (.slice A k c) := by rw [World.cell?_alloc_some _ _ _ (by simp [hc0])]; simpa using hc0
      refine hK _ _ (pend_on hS4 pend_nil) (fun hq => ?_)
      clear hp hK K; have hp := hq; clear hq
      try simp only [Act.put, List.setIfInBounds_toArray, List.set_cons_zero, List.set_cons_succ]
      refine wpAnyR_step (i := 7) (o := ⟨some 26, _, _, _, _, _⟩) (by kernel_rfl) rfl (by rfl) (fun K hK => ?_) -- Op.call { callee := Callee.builtin Builtin.append, args := #[Operand.tmp 23, Operand.tmp 25], argTypes := #[44
      refine wp_append_lies _ _ _ _ rfl w.heap.size 9 i0 _ 1 16 Try.underlying44 HI0.out.1 HI0.out.2.1 HI0.out.2.2.1 HI0.out.2.2.2 (by rfl) (by omega) _ _ _ rfl (HO.out.drew.alloc _) ⟨wr.heap.size, 0, none⟩ 1 1 [.string (bs (Dk.pad []))] rfl rfl (World.news_of_block (cs := #[.string (bs (Dk.pad []))]) (t := 9) (fr := (0, 0)) (heap_alloc_new wr.drew _)) (by simp [Value.oneCell']) (by omega) (by simp only [maxLen]; omega) (by omega) (by simpa using hba) (wr.heap.size + 1) (by simp) ?_
      intro g' cap w4 hown hgrow hat hlt4
      have C4 : Chg (fun i => (Value.slice A k c).ownBlock = some i) wr w4 := ((Chg.refl _ wr).drew.alloc _).trans (Chg.of_grownBy (fp := fun i => (Value.slice A k c).ownBlock = some i) hgrow (fun k hk => .inl hk)) (fun i hi => .inl hi)
      have HB4 := C4.blk HB.out (fun e => own_ne_blk HO.out HB.out (by decide) w.heap.size e rfl)
      have hc4 := HB4.cell 0
      have hf4 := HB4.frozen 0
      refine hK _ _ (pend_off (by kernel_rfl) pend_nil) (fun hq => ?_)
      clear hp hK K; have hp := hq; clear hq
      try simp only [Act.put, List.setIfInBounds_toArray, List.set_cons_zero, List.set_cons_succ]
      refine wpAnyR_take (i := 8) (oi := ⟨some 27, _, _, _, _, _⟩) (v := ?_) rfl (by kernel_rfl) (by kernel_rfl) (by kernel_rfl) (fun _ _ _ h => h) hp (.inl ⟨by rfl, fun w _ => ?_⟩) (fun hq => ?_)
      rotate_left
      · go_simp
        with_reducible rfl
      clear hp; have hp := hq; clear hq
      try simp only [Act.put, List.setIfInBounds_toArray, List.set_cons_zero, List.set_cons_succ]
      refine wpAnyR_take (i := 9) (oi := ⟨some 28, _, _, _, _, _⟩) (v := ?_) rfl (by kernel_rfl) (by kernel_rfl) (by kernel_rfl) (fun _ _ _ h => h) hp (.inl ⟨by rfl, fun w _ => ?_⟩) (fun hq => ?_)
      rotate_left
      · go_simp
        with_reducible rfl
      clear hp; have hp := hq; clear hq
      try simp only [Act.put, List.setIfInBounds_toArray, List.set_cons_zero, List.set_cons_succ]
      refine wpAnyR_step (i := 10) (o := ⟨none, _, _, _, _, _⟩) (by kernel_rfl) rfl (by rfl) (fun K hK => ?_) -- Op.store 44 (Operand.tmp 28) (Operand.tmp 26)
      go_simp
      refine hK _ _ (pend_off (by kernel_rfl) pend_nil) (fun hq => ?_)
      clear hp hK K; have hp := hq; clear hq
      try simp only [Act.put]
      refine wpAnyR_done (by kernel_rfl) ?_ _
      clear hp
      go_wp2
      have hk := HK.out
      go_roundg (gk - 1)
      case measure => omega
      case rel =>
        have C5 : Chg (· = w.heap.size) w4 (w4.setCell ⟨w.heap.size, 0, none⟩ (.slice (some ⟨g', 0, none⟩) (k + 1) cap)) := (Chg.refl (· = w.heap.size) w4).setCell (p := ⟨w.heap.size, 0, none⟩) (.inl rfl) _
        refine ⟨k + 1, by omega, by go_num, Lib.hid ⟨.slice (some ⟨g', 0, none⟩) (k + 1) cap, HB4.put 0 _, ?_, ?_⟩⟩
        · rw [List.replicate_succ', svs_snoc]
          exact C5.own hown (fun i hi e => own_ne_blk hown HB4 (by decide) i hi e)
        · exact (HBe.out.trans (C4.below (fun i hi => (HO.out.lt i hi).1) (by omega))).setCell (p := ⟨w.heap.size, 0, none⟩) (Nat.le_refl _) _
    · obtain rfl : k = n := by omega
      obtain ⟨vd, hb, ho, hB⟩ := hR.out
      go_wp2
      go_ret2
      exact ⟨w.heap.size, vd, .slice none 0 0, rfl, ⟨hb, Nat.le_refl _, by simpa [Dk.new] using ho, World.ownsRow_nil _ _ _ _, Dk.new_ok k h1 h2⟩, hB⟩

end Go.Proofs.Ytdnjelggdjimhaa
