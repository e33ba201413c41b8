/-
  CustodyTorn: the plain law, and the walk.
-/
import Derived.Test.YtdnjelggdjimhaaLw1
namespace Go.Proofs.Ytdnjelggdjimhaa
open Go.RowKit

/-! ### The plain law -/
namespace Dk
def tn1 (at_ : Nat) (old : List UInt8) : D := write (new 16) at_ old
def tn2 (at_ : Nat) (old : List UInt8) : D := flush (tn1 at_ old)
def tn3 (at_ : Nat) (old new_ : List UInt8) : D := write (tn2 at_ old) at_ new_
def tn4 (at_ : Nat) (old new_ : List UInt8) (keep : Int) : D := crash (tn3 at_ old new_) [keep]

theorem tn1_eq (at_ : Nat) (old : List UInt8) (h : at_ < 16) (ho : old.length ≤ 64) : tn1 at_ old = wrote (new 16) at_ (pad old) := by
  unfold tn1 write
  rw [show (new 16).down = false from rfl, show (new 16).now.length = 16 from rfl, if_neg (by decide), if_neg (by omega), if_neg (by omega), show spends (new 16) = true from rfl, if_pos rfl, Int.toNat_natCast]
  rfl
theorem tn1_err (at_ : Nat) (old : List UInt8) (h : at_ < 16) (ho : old.length ≤ 64) : writeErr (new 16) at_ old.length = 0 := by
  unfold writeErr
  rw [show (new 16).down = false from rfl, show (new 16).now.length = 16 from rfl, if_neg (by decide), if_neg (by omega), if_neg (by omega), show spends (new 16) = true from rfl, if_pos rfl]
theorem tn2_eq (at_ : Nat) (old : List UInt8) (h : at_ < 16) (ho : old.length ≤ 64) : tn2 at_ old = flushed (wrote (new 16) at_ (pad old)) := by
  unfold tn2; rw [tn1_eq at_ old h ho]; rfl
theorem tn2_err (at_ : Nat) (old : List UInt8) (h : at_ < 16) (ho : old.length ≤ 64) : flushErr (tn1 at_ old) = 0 := by
  rw [tn1_eq at_ old h ho]; rfl
theorem tn2_now (at_ : Nat) (old : List UInt8) (h : at_ < 16) (ho : old.length ≤ 64) : (tn2 at_ old).now = (List.replicate 16 zsec).set at_ (pad old) := by rw [tn2_eq at_ old h ho]; rfl
theorem tn2_dur (at_ : Nat) (old : List UInt8) (h : at_ < 16) (ho : old.length ≤ 64) : (tn2 at_ old).dur = (List.replicate 16 zsec).set at_ (pad old) := by rw [tn2_eq at_ old h ho]; rfl
theorem tn3_eq (at_ : Nat) (old new_ : List UInt8) (h : at_ < 16) (ho : old.length ≤ 64) (hn : new_.length ≤ 64) : tn3 at_ old new_ = wrote (tn2 at_ old) at_ (pad new_) := by
  have hl : (tn2 at_ old).now.length = 16 := by rw [tn2_now at_ old h ho]; simp
  have e1 : (tn2 at_ old).down = false := by rw [tn2_eq at_ old h ho]; rfl
  have e2 : spends (tn2 at_ old) = true := by rw [tn2_eq at_ old h ho]; rfl
  have e3 : spent (tn2 at_ old) = tn2 at_ old := by rw [tn2_eq at_ old h ho]; rfl
  unfold tn3 write
  rw [e1, hl, if_neg (by decide), if_neg (by omega), if_neg (by omega), e2, if_pos rfl, e3, Int.toNat_natCast]
theorem tn3_err (at_ : Nat) (old new_ : List UInt8) (h : at_ < 16) (ho : old.length ≤ 64) (hn : new_.length ≤ 64) : writeErr (tn2 at_ old) at_ new_.length = 0 := by
  have hl : (tn2 at_ old).now.length = 16 := by rw [tn2_now at_ old h ho]; simp
  have e1 : (tn2 at_ old).down = false := by rw [tn2_eq at_ old h ho]; rfl
  have e2 : spends (tn2 at_ old) = true := by rw [tn2_eq at_ old h ho]; rfl
  unfold writeErr
  rw [e1, hl, if_neg (by decide), if_neg (by omega), if_neg (by omega), e2, if_pos rfl]
theorem tn_wr0 : (new 16).wr.length = 0 := rfl
theorem tn_wr2 (at_ : Nat) (old : List UInt8) (h : at_ < 16) (ho : old.length ≤ 64) : (tn2 at_ old).wr.length = 0 := by rw [tn2_eq at_ old h ho]; rfl
/-- How many bytes are kept. -/
def tnKept (keep : Int) : Nat := (min (max keep 0) 64).toNat
theorem tn4_now (at_ : Nat) (old new_ : List UInt8) (keep : Int) (h : at_ < 16) (ho : old.length ≤ 64) (hn : new_.length ≤ 64) :
    (tn4 at_ old new_ keep).now.getD at_ zsec = (pad new_).take (tnKept keep) ++ (pad old).drop (tnKept keep) ∧ (tn4 at_ old new_ keep).now.length = 16 ∧ (tn4 at_ old new_ keep).down = false := by
  have e : (tn4 at_ old new_ keep).now = torn1 ((List.replicate 16 zsec).set at_ (pad old)) (tnKept keep) (at_, pad new_) := by
    unfold tn4
    rw [tn3_eq at_ old new_ h ho hn]
    show tornFrom [keep] 0 (tn2 at_ old).dur ((tn2 at_ old).wr ++ [(at_, pad new_)]) = _
    rw [List.eq_nil_of_length_eq_zero (tn_wr2 at_ old h ho), tn2_dur at_ old h ho]
    rfl
  refine ⟨?_, ?_, rfl⟩
  · rw [e]
    unfold torn1
    simp [List.getD_eq_getElem?_getD, h]
  · rw [e, length_torn1]; simp
theorem tn4_read (at_ : Nat) (old new_ : List UInt8) (keep : Int) (h : at_ < 16) (ho : old.length ≤ 64) (hn : new_.length ≤ 64) : readErr (tn4 at_ old new_ keep) at_ = 0 := by
  obtain ⟨_, h2, h3⟩ := tn4_now at_ old new_ keep h ho hn
  unfold readErr
  rw [h3, h2, if_neg (by decide), if_neg (by omega)]
/-- The bytes behind the crash. -/
theorem tn_byte (old new_ : List UInt8) (keep : Int) (ho : old.length ≤ 64) (hn : new_.length ≤ 64) (i : Nat) (hi : i < 64) :
    ((pad new_).take (tnKept keep) ++ (pad old).drop (tnKept keep))[i]? = some (if (i : Int) < keep then new_.getD i 0 else old.getD i 0) := by
  have hln := length_pad new_ hn
  have hlo := length_pad old ho
  have hm : tnKept keep ≤ 64 := by unfold tnKept; omega
  rw [List.getElem?_append, List.length_take, hln, Nat.min_eq_left hm]
  by_cases hk : i < tnKept keep
  · have hk' : (i : Int) < keep := by unfold tnKept at hk; omega
    rw [if_pos hk, if_pos hk', List.getElem?_take, if_pos hk, ← pad_get new_ hn i hi, List.getD_eq_getElem?_getD, List.getElem?_eq_getElem (by omega)]
    rfl
  · have hk' : ¬ (i : Int) < keep := by unfold tnKept at hk; omega
    rw [if_neg hk, if_neg hk', List.getElem?_drop, show tnKept keep + (i - tnKept keep) = i from by omega, ← pad_get old ho i hi, List.getD_eq_getElem?_getD, List.getElem?_eq_getElem (by omega)]
    rfl
end Dk

/-- What is known of a slice of bytes that came in. -/
structure BytesAt (w : World) (A : Option Addr) (n c : Nat) (l : List UInt8) : Prop where
  len : n = l.length
  cap : n ≤ c
  src : SrcAt w A (bvs l)

theorem BytesAt.block {w : World} {A : Option Addr} {n c : Nat} {l : List UInt8} (h : BytesAt w A n c l) (hl : l ≠ []) : ∀ ad, A = some ad → ad.block < w.heap.size := by
  intro ad hA
  rcases h.src with h0 | ⟨ad', hA', hc⟩
  · exact absurd (List.map_eq_nil_iff.1 h0) hl
  · rw [hA] at hA'; cases hA'
    obtain ⟨x, l, hxl⟩ : ∃ x r, l = x :: r := List.exists_cons_of_ne_nil hl
    have := World.block_lt_of_cell? w _ (hc 0 (bv x) (by rw [hxl]; rfl))
    have hb : (ad.add 0).block = ad.block := by unfold Addr.add; split <;> rfl
    rwa [hb] at this
theorem BytesAt.below {w w' : World} {A : Option Addr} {n c : Nat} {l : List UInt8} (h : BytesAt w A n c l) (hb : Below w.heap.size w w') : BytesAt w' A n c l :=
  ⟨h.len, h.cap, h.src.chg (Chg.of_below (fp := fun _ => False) hb) (fun _ _ _ h => h)⟩
theorem BytesAt.cell {w : World} {A : Option Addr} {n c : Nat} {l : List UInt8} (h : BytesAt w A n c l) (i : Nat) (hi : i < l.length) : ∃ ad, A = some ad ∧ w.cell? (ad.add i) = some (.int .u8 ((l.getD i 0).toNat : Int)) := by
  rcases h.src with h0 | ⟨ad, hA, hc⟩
  · rw [List.map_eq_nil_iff.1 h0] at hi; simp at hi
  · exact ⟨ad, hA, hc i _ (by simp [bvs, bv, List.getD_eq_getElem?_getD, hi])⟩

set_option maxRecDepth 100000 in
set_option maxHeartbeats 2000000 in
theorem torn_calls (sector keep : Int) (A B : Option Addr) (n c m k : Nat) (old new_ : List UInt8) (w : World) (ho : BytesAt w A n c old) (hn : BytesAt w B m k new_) :
    Calls Try.prog 3 #[.int .i64 sector, .slice A n c, .slice B m k, .int .i64 keep] w fun e w' => e = .returned (.bool true) ∧ Below w.heap.size w w' := by
  by_cases h64 : n ≤ 64 ∧ m ≤ 64
  case neg =>
    by_cases h1 : 64 < n
    · have hd : decide ((64 : Int) < (n : Int)) = true := by simp; omega
      go_enter Try.func3, Try.ntmps3
      go_wp2_with fail
      refine (disks_calls w).mono ?_
      rintro e w' ⟨rfl, hB⟩
      go_wp2
      go_ret
      exact ⟨rfl, hB⟩
    · have hd : decide ((64 : Int) < (n : Int)) = false := by simp; omega
      have hd2 : decide ((64 : Int) < (m : Int)) = true := by simp; omega
      go_enter Try.func3, Try.ntmps3
      go_wp2_with fail
      refine (disks_calls w).mono ?_
      rintro e w' ⟨rfl, hB⟩
      go_wp2
      go_ret
      exact ⟨rfl, hB⟩
  obtain ⟨h1, h2⟩ := h64
  have hd : decide ((64 : Int) < (n : Int)) = false := by simp; omega
  have hd2 : decide ((64 : Int) < (m : Int)) = false := by simp; omega
  have HO := Lib.hid ho
  have HN := Lib.hid hn
  clear ho hn
  go_enter Try.func3, Try.ntmps3
  go_wp2_with fail
  obtain ⟨at_, hat, hate⟩ : ∃ at_ : Nat, at_ < 16 ∧ wrap64 ((IntKind.u64.wrap sector).tmod 16) = (at_ : Int) := by
    have hw : 0 ≤ IntKind.u64.wrap sector := by simp [IntKind.wrap_u64]; omega
    refine ⟨((IntKind.u64.wrap sector).tmod 16).toNat, ?_, ?_⟩
    · rw [Int.tmod_eq_emod_of_nonneg hw]; omega
    · rw [Int.tmod_eq_emod_of_nonneg hw]; unfold wrap64; omega
  rw [hate]
  clear hate
  refine (new_yes 16 _ (by omega) (by omega)).mono ?_
  rintro e w1 ⟨g, vd, vn, vw, rfl, hD, hB⟩
  have HD := Lib.hid hD
  have HB := Lib.hid hB
  clear hD hB
  go_wp2_with fail
  have HA := Lib.hid (fun ad hA (ho : old ≠ []) => HO.out.block ho ad hA)
  have HBk := Lib.hid (fun ad hA (hn : new_ ≠ []) => HN.out.block hn ad hA)
  have hlo : old.length ≤ 64 := by have := HO.out.len; omega
  have hln : new_.length ≤ 64 := by have := HN.out.len; omega
  refine (write_upd (at_ : Int) A n c old HD.out HO.out.len (HO.out.below HB.out).src (fun ho ad hA => by have := HA.out ad hA ho; have := HD.out.low; omega) (by rw [Dk.tn_wr0]; simp [maxLen])).mono ?_
  rw [Dk.tn1_err at_ old hat hlo, show Dk.write (Dk.new 16) at_ old = Dk.tn1 at_ old from rfl]
  rintro e w2 ⟨rfl, hU⟩
  have hB2 := hU.below HD.out HB.out.size
  obtain ⟨vd2, vn2, vw2, hD2, hc2, _⟩ := hU
  have HD2 := Lib.hid hD2
  have HB2 := Lib.hid (HB.out.trans hB2)
  clear hD2 hc2 hB2
  go_wp2_with fail
  refine (flush_upd HD2.out).mono ?_
  rw [Dk.tn2_err at_ old hat hlo, show Dk.flush (Dk.tn1 at_ old) = Dk.tn2 at_ old from rfl]
  rintro e w3 ⟨rfl, hU⟩
  have hB3 := hU.below HD2.out HB2.out.size
  obtain ⟨vd3, vn3, vw3, hD3, hc3, _⟩ := hU
  have HD3 := Lib.hid hD3
  have HB3 := Lib.hid (HB2.out.trans hB3)
  clear hD3 hc3 hB3
  go_wp2_with fail
  refine (write_upd (at_ : Int) B m k new_ HD3.out HN.out.len (HN.out.below HB3.out).src (fun hn ad hA => by have := HBk.out ad hA hn; have := HD3.out.low; omega) (by rw [Dk.tn_wr2 at_ old hat hlo]; simp [maxLen])).mono ?_
  rw [Dk.tn3_err at_ old new_ hat hlo hln, show Dk.write (Dk.tn2 at_ old) at_ new_ = Dk.tn3 at_ old new_ from rfl]
  rintro e w4 ⟨rfl, hU⟩
  have hB4 := hU.below HD3.out HB3.out.size
  obtain ⟨vd4, vn4, vw4, hD4, hc4, _⟩ := hU
  have HD4 := Lib.hid hD4
  have HB4 := Lib.hid (HB3.out.trans hB4)
  clear hD4 hc4 hB4
  go_wp2_with fail
  refine (crash_upd _ 1 1 [keep] (HD4.out.new_ ((Chg.refl _ w4).alloc _)) rfl (.inr ⟨⟨w4.heap.size, 0, none⟩, rfl, fun e => by have := (HD4.out.dur.lt _ e).2; simp at this, fun j hj => by
    obtain rfl : j = 0 := by simpa using hj
    simp [Addr.add]⟩)).mono ?_
  rw [show Dk.crash (Dk.tn3 at_ old new_) [keep] = Dk.tn4 at_ old new_ keep from rfl]
  rintro e w5 ⟨rfl, hU⟩
  have hB5 := hU.below (HD4.out.new_ ((Chg.refl _ w4).alloc _)) (by have := HB4.out.size; simp; omega)
  obtain ⟨vd5, vn5, vw5, hD5, hc5, _⟩ := hU
  have HD5 := Lib.hid hD5
  have HB5 := Lib.hid ((HB4.out.alloc HB4.out.size _).trans hB5)
  clear hD5 hc5 hB5
  go_wp2_with fail
  refine (read_any g _ w5 _ vd5 vn5 vw5 at_ HD5.out).mono ?_
  rintro e w6 ⟨hc6, hr⟩
  obtain ⟨b, rfl, hb, hbl⟩ := (hr.resolve_left (fun h => h.1 (Dk.tn4_read at_ old new_ keep hat hlo hln))).2
  rw [Int.toNat_natCast, (Dk.tn4_now at_ old new_ keep hat hlo hln).1] at hbl
  have HBL := Lib.hid hbl
  have HB6 := Lib.hid (HB5.out.trans (hc6.below (fun _ h => h.elim) HB5.out.size))
  have hdn : w6.cell? ⟨g, 3, none⟩ = some (.bool false) := by
    rw [← (Dk.tn4_now at_ old new_ keep hat hlo hln).2.2]
    exact (HD5.out.new_ hc6).blk.cell 3
  clear hc6 hr hbl hb
  go_wp2_with (first | (go_at_call 14; refine (down_calls g _ false (by assumption)).mono ?_; rintro e w' ⟨rfl, rfl⟩) | fail)
  have HO6 := Lib.hid (HO.out.below HB6.out)
  have HN6 := Lib.hid (HN.out.below HB6.out)
  clear HO HN HA HBk hdn
  have hn0 := Lib.hid HO6.out.len
  have hm0 := Lib.hid HN6.out.len
  have hnc := HO6.out.cap
  have hmk := HN6.out.cap
  go_loop [17] (fun i => ∃ q : Nat, q ≤ 64 ∧ i = .int .i64 q) (fun i => 64 - (intOf i).toNat)
  case atStart => exact ⟨0, by omega, rfl⟩
  case round =>
    obtain ⟨q, hq, rfl⟩ := hrel
    by_cases hlt : q < 64
    · have hby := Dk.tn_byte old new_ keep hlo hln q hlt
      have hs : w6.cell? ⟨b, q, none⟩ = some (.int .u8 ((if (q : Int) < keep then new_.getD q 0 else old.getD q 0).toNat : Int)) := by
        rw [HBL.out.cell]
        simp only [bvs, List.getElem?_toArray, List.getElem?_map, hby, Option.map_some, bv]
      clear hby
      by_cases hkk : (q : Int) < keep
      · rw [if_pos hkk] at hs
        have hd3 : decide ((q : Int) < keep) = true := by simpa using hkk
        have hd4 : decide (keep ≤ (q : Int)) = false := by simp; omega
        by_cases hqm : q < m
        · obtain ⟨ad, rfl, hcx⟩ := HN6.out.cell q (by rw [← hm0.out]; exact hqm)
          obtain ⟨y, hy⟩ : ∃ y : Int, y = ((new_.getD q 0).toNat : Int) := ⟨_, rfl⟩
          rw [← hy] at hs hcx
          clear hy
          go_wp2
          go_round
          case rel => exact ⟨q + 1, by omega, by go_num⟩
          case measure => simp [intOf]; omega
        · have hz : new_.getD q 0 = 0 := by rw [List.getD_eq_getElem?_getD, List.getElem?_eq_none (by rw [← hm0.out]; omega)]; rfl
          rw [hz] at hs
          replace hs : w6.cell? ⟨b, q, none⟩ = some (.int .u8 0) := hs
          clear hz
          go_wp2
          go_round
          case rel => exact ⟨q + 1, by omega, by go_num⟩
          case measure => simp [intOf]; omega
      · rw [if_neg hkk] at hs
        have hd3 : decide ((q : Int) < keep) = false := by simpa using hkk
        have hd4 : decide (keep ≤ (q : Int)) = true := by simp; omega
        by_cases hqn : q < n
        · obtain ⟨ad, rfl, hcx⟩ := HO6.out.cell q (by rw [← hn0.out]; exact hqn)
          obtain ⟨y, hy⟩ : ∃ y : Int, y = ((old.getD q 0).toNat : Int) := ⟨_, rfl⟩
          rw [← hy] at hs hcx
          clear hy
          go_wp2
          go_round
          case rel => exact ⟨q + 1, by omega, by go_num⟩
          case measure => simp [intOf]; omega
        · have hz : old.getD q 0 = 0 := by rw [List.getD_eq_getElem?_getD, List.getElem?_eq_none (by rw [← hn0.out]; omega)]; rfl
          rw [hz] at hs
          replace hs : w6.cell? ⟨b, q, none⟩ = some (.int .u8 0) := hs
          clear hz
          go_wp2
          go_round
          case rel => exact ⟨q + 1, by omega, by go_num⟩
          case measure => simp [intOf]; omega
    · go_wp2_with fail
      refine (disks_calls w6).mono ?_
      rintro e w' ⟨rfl, hB⟩
      have HB7 := Lib.hid (HB6.out.trans (hB.mono HB6.out.size))
      clear hB
      go_wp2
      go_ret
      exact ⟨rfl, HB7.out⟩

end Go.Proofs.Ytdnjelggdjimhaa
