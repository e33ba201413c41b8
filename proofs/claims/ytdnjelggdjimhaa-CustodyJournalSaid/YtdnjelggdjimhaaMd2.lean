/-
  The walks of the reference disk's Read, Write and Stop.
-/
import Derived.Test.YtdnjelggdjimhaaMd1
namespace Go.Proofs.Ytdnjelggdjimhaa
open Go.RowKit

namespace Dk
/-- What a sector holds: the last of the writes to it, or what is durable. -/
def readOf (dur : List Sec) (ps : List (Nat × Sec)) (s : Nat) : Sec := ps.foldl (fun cur p => if p.1 = s then p.2 else cur) (dur.getD s zsec)
theorem readOf_put (ps : List (Nat × Sec)) : ∀ (dur : List Sec) (s : Nat), s < dur.length → readOf dur ps s = (putAll dur ps).getD s zsec := by
  induction ps with
  | nil => intro dur s _; rfl
  | cons p ps ih =>
    intro dur s hs
    have h1 := ih (put1 dur p) s (by rw [length_put1]; exact hs)
    simp only [readOf, putAll, List.foldl_cons] at h1 ⊢
    rw [← h1]
    congr 1
    unfold put1
    by_cases h : p.1 = s
    · subst h; simp [List.getD_eq_getElem?_getD, hs]
    · simp [List.getD_eq_getElem?_getD, h]
theorem readOf_take (dur : List Sec) (ps : List (Nat × Sec)) (s k : Nat) (p : Nat × Sec) (h : ps[k]? = some p) : readOf dur (ps.take (k + 1)) s = if p.1 = s then p.2 else readOf dur (ps.take k) s := by
  rw [List.take_add_one, h]; simp [readOf]
end Dk

theorem puts_get {l : List (Nat × Dk.Sec)} {k : Nat} {p : Nat × Dk.Sec} (hk : l[k]? = some p) : (puts l)[k * 2]? = some (.int .i64 (p.1 : Int)) ∧ (puts l)[k * 2 + 1]? = some (.string (bs p.2)) := by
  induction l generalizing k with
  | nil => simp at hk
  | cons y r ih =>
    have e : puts (y :: r) = [.int .i64 (y.1 : Int), .string (bs y.2)] ++ puts r := rfl
    rw [e]
    cases k with
    | zero => simp at hk; subst hk; exact ⟨rfl, rfl⟩
    | succ k =>
      have := ih (k := k) (by simpa using hk)
      rw [show (k + 1) * 2 = k * 2 + 1 + 1 from by omega, show k * 2 + 1 + 1 + 1 = (k * 2 + 1) + 1 + 1 from by omega]
      exact this
theorem svs_get {l : List Dk.Sec} {k : Nat} (hk : k < l.length) : (svs l)[k]? = some (.string (bs (l.getD k Dk.zsec))) := by
  simp [svs, List.getD_eq_getElem?_getD, hk]

set_option maxHeartbeats 1000000 in
theorem mread_any {base m : Nat} {w : World} {d : Dk.D} {vd vp : Value} (at_ : Int) (h : ModelAt w base m d vd vp) :
    Calls Try.prog 32 #[.pointer (some ⟨m, 0, none⟩), .int .i64 at_] w fun e w' => w = w' ∧
      ((Dk.readErr d at_ ≠ 0 ∧ e = .returned (.tuple #[.string ⟨#[]⟩, .int .i64 (Dk.readErr d at_)])) ∨ (Dk.readErr d at_ = 0 ∧ e = .returned (.tuple #[.string (bs (d.now.getD at_.toNat Dk.zsec)), .int .i64 0]))) := by
  have hB := h.blk
  have hc3 : w.cell? ⟨m, 3, none⟩ = some (.bool d.down) := hB.cell 3
  cases hdn : d.down
  case true =>
    rw [hdn] at hc3
    have E := Lib.hid hdn
    clear hdn h hB
    go_enter Try.func32, Try.ntmps32
    go_wp2
    go_ret2
    have e : Dk.readErr d at_ = 70 := by simp [Dk.readErr, E.out]
    exact ⟨rfl, .inl ⟨by rw [e]; decide, by rw [e]; rfl⟩⟩
  rw [hdn] at hc3
  have hsame := h.ok.same
  obtain ⟨gd, cd, rfl, hgd, hgd', hcd, hcm⟩ := own_form h.dur (by have := h.ok.many; omega)
  have hc0 : w.cell? ⟨m, 0, none⟩ = some (.slice (some ⟨gd, 0, none⟩) d.dur.length cd) := hB.cell 0
  obtain ⟨A, cw, rfl, hcw, hcwm⟩ := own_shape h.wr
  have hc1 : w.cell? ⟨m, 1, none⟩ = some (.slice A d.wr.length cw) := hB.cell 1
  have hmax : d.wr.length ≤ 9223372036854775807 := by simp only [maxLen] at hcwm; omega
  have E := Lib.hid hdn
  have H := Lib.hid h
  have HS := Lib.hid hsame
  clear hdn h hB hsame
  by_cases h1 : at_ < 0
  · have hd : decide (at_ < 0) = true := by simpa using h1
    go_enter Try.func32, Try.ntmps32
    go_wp2
    go_ret2
    have e : Dk.readErr d at_ = 1 := by simp [Dk.readErr, E.out, h1]
    exact ⟨rfl, .inl ⟨by rw [e]; decide, by rw [e]; rfl⟩⟩
  have hd : decide (at_ < 0) = false := by simpa using h1
  by_cases h2 : (d.dur.length : Int) ≤ at_
  · go_enter Try.func32, Try.ntmps32
    go_wp2
    go_ret2
    have e : Dk.readErr d at_ = 1 := by have := HS.out; simp [Dk.readErr, E.out, show (d.now.length : Int) ≤ at_ by omega]
    exact ⟨rfl, .inl ⟨by rw [e]; decide, by rw [e]; rfl⟩⟩
  obtain ⟨s, rfl⟩ : ∃ s : Nat, at_ = s := ⟨at_.toNat, by omega⟩
  have hs : s < d.dur.length := by omega
  have hcs : w.cell? ⟨gd, s, none⟩ = some (.string (bs (Dk.readOf d.dur (d.wr.take 0) s))) := by
    have := own_range H.out.dur s [.string (bs (d.dur.getD s Dk.zsec))] (fun j v hv => by
      match j, hv with
      | 0, hv => simp at hv; subst hv; exact svs_get hs) 0 _ rfl
    simpa [Dk.readOf] using this
  go_enter Try.func32, Try.ntmps32
  go_wp2_with fail
  go_loop [6, 7] (fun t i => ∃ k : Nat, k ≤ d.wr.length ∧ i = .int .i64 k ∧ t = .string (bs (Dk.readOf d.dur (d.wr.take k) s))) (fun _ i => d.wr.length - (intOf i).toNat)
  case atStart => exact ⟨0, Nat.zero_le _, rfl, rfl⟩
  case round =>
    obtain ⟨k, hk, rfl, rfl⟩ := hrel
    by_cases hlt : k < d.wr.length
    · obtain ⟨gp, cp, hv, _⟩ := own_form H.out.wr (by omega)
      obtain rfl : A = some ⟨gp, 0, none⟩ := by injection hv
      obtain ⟨p, hp⟩ : ∃ p, d.wr[k]? = some p := ⟨_, List.getElem?_eq_getElem hlt⟩
      obtain ⟨hp1, hp2⟩ := puts_get hp
      have hk1 : w.cell? ⟨gp, k * 2, none⟩ = some (.int .i64 (p.1 : Int)) := own_range H.out.wr (k * 2) [.int .i64 (p.1 : Int)] (fun j v hv => by
        match j, hv with
        | 0, hv => simp at hv; subst hv; exact hp1) 0 _ rfl
      have hk2 : w.cell? ⟨gp, k * 2 + 1, none⟩ = some (.string (bs p.2)) := own_range H.out.wr (k * 2 + 1) [.string (bs p.2)] (fun j v hv => by
        match j, hv with
        | 0, hv => simp at hv; subst hv; exact hp2) 0 _ rfl
      have hrt := Dk.readOf_take d.dur d.wr s k p hp
      clear hv hp1 hp2
      by_cases hps : p.1 = s
      · have hb : ((p.1 : Int) == (s : Int)) = true := by simp [hps]
        rw [if_pos hps] at hrt
        have HRT := Lib.hid hrt
        have HP := Lib.hid hp
        have HPS := Lib.hid hps
        clear hrt hp hps hcs
        go_wp2
        go_round
        case rel => exact ⟨k + 1, by omega, by go_num, by rw [HRT.out]⟩
        case measure => simp [intOf]; omega
      · have hb : ((p.1 : Int) == (s : Int)) = false := by simp; omega
        rw [if_neg hps] at hrt
        have HRT := Lib.hid hrt
        have HP := Lib.hid hp
        have HPS := Lib.hid hps
        clear hrt hp hps hcs
        go_wp2
        go_round
        case rel => exact ⟨k + 1, by omega, by go_num, by rw [HRT.out]⟩
        case measure => simp [intOf]; omega
    · obtain rfl : k = d.wr.length := by omega
      go_wp2
      go_ret2
      have e : Dk.readErr d (s : Int) = 0 := by have := HS.out; unfold Dk.readErr; rw [E.out, if_neg (by decide), if_neg (by omega)]
      refine ⟨rfl, .inr ⟨e, ?_⟩⟩
      show Ending.returned (.tuple #[.string (bs (Dk.readOf d.dur d.wr s)), .int .i64 0]) = _
      rw [Dk.readOf_put _ _ _ hs, ← H.out.ok.now]
      rfl

set_option maxHeartbeats 400000 in
theorem mstop_any {base m : Nat} {w : World} {d : Dk.D} {vd vp : Value} (calls : Int) (h : ModelAt w base m d vd vp) (hc : calls ≤ 9223372036854775807) :
    Calls Try.prog 35 #[.pointer (some ⟨m, 0, none⟩), .int .i64 calls] w fun e w' => e = .returned (.int .i64 (Dk.stopErr d calls)) ∧ UpdM base m vd vp w (Dk.stop d calls) w' := by
  have hB := h.blk
  have hc3 : w.cell? ⟨m, 3, none⟩ = some (.bool d.down) := hB.cell 3
  have hc2 : w.cell? ⟨m, 2, none⟩ = some (.int .i64 (leftOf d)) := hB.cell 2
  have hf2 := hB.frozen 2
  have same : ∀ w', w = w' → UpdM base m vd vp w d w' := by rintro w' rfl; exact ⟨vd, vp, h, Chg.refl _ _, fun k hk => .inl hk⟩
  have H := Lib.hid h
  have HS := Lib.hid same
  clear h hB same
  cases hdn : d.down
  case true =>
    rw [hdn] at hc3
    have E := Lib.hid hdn
    clear hdn
    go_enter Try.func35, Try.ntmps35
    go_wp2
    go_ret
    rw [show Dk.stop d calls = d from by simp [Dk.stop, E.out], show Dk.stopErr d calls = 70 from by simp [Dk.stopErr, E.out]]
    exact ⟨rfl, HS.out w rfl⟩
  rw [hdn] at hc3
  have E := Lib.hid hdn
  clear hdn
  by_cases h1 : calls < 0
  · go_enter Try.func35, Try.ntmps35
    go_wp2
    go_ret
    rw [show Dk.stop d calls = d from by simp [Dk.stop, h1], show Dk.stopErr d calls = 1 from by simp [Dk.stopErr, E.out, h1]]
    exact ⟨rfl, HS.out w rfl⟩
  · obtain ⟨k, rfl⟩ : ∃ k : Nat, calls = k := ⟨calls.toNat, by omega⟩
    go_enter Try.func35, Try.ntmps35
    go_wp2
    go_ret
    have e : Dk.stop d (k : Int) = { d with armed := true, left := k } := by unfold Dk.stop; rw [E.out, if_neg (by decide), if_neg (by omega), Int.toNat_natCast]
    have hok := Dk.stop_ok H.out.ok _ hc
    rw [e] at hok ⊢
    rw [show Dk.stopErr d (k : Int) = 0 from by unfold Dk.stopErr; rw [E.out, if_neg (by decide), if_neg (by omega)]]
    have hb := H.out.blk.put 2 (.int .i64 (k : Int))
    have hch := (Chg.refl (· = m) w).setCell (p := ⟨m, 2, none⟩) (.inl rfl) (.int .i64 (k : Int))
    refine ⟨rfl, vd, vp, ⟨hb, H.out.low, hch.own H.out.dur (fun k hk e => own_ne_blk H.out.dur H.out.blk (by decide) k hk e), hch.own H.out.wr (fun k hk e => own_ne_blk H.out.wr H.out.blk (by decide) k hk e), hok⟩, hch.mono (fun i _ hi => .inl hi), fun k hk => .inl hk⟩


theorem UpdM.same {base m : Nat} {w : World} {d : Dk.D} {vd vp : Value} (h : ModelAt w base m d vd vp) : UpdM base m vd vp w d w := ⟨vd, vp, h, Chg.refl _ _, fun _ hk => .inl hk⟩
theorem UpdM.of_blk {base m : Nat} {w w' : World} {d d' : Dk.D} {vd vp : Value} (h : ModelAt w base m d vd vp) (hb : Blk w' m 47 #[vd, vp, .int .i64 (leftOf d'), .bool d'.down]) (hc : Chg (· = m) w w')
    (h1 : d'.dur = d.dur) (h2 : d'.wr = d.wr) (hok : Dk.Ok d') : UpdM base m vd vp w d' w' :=
  ⟨vd, vp, ⟨hb, h.low, by rw [h1]; exact hc.own h.dur (fun k hk e => own_ne_blk h.dur h.blk (by decide) k hk e), by rw [h2]; exact hc.own h.wr (fun k hk e => own_ne_blk h.wr h.blk (by decide) k hk e), hok⟩, hc.mono (fun i _ hi => .inl hi), fun _ hk => .inl hk⟩

set_option maxHeartbeats 1000000 in
theorem mwrite_any {base m : Nat} {w : World} {d : Dk.D} {vd vp : Value} (at_ : Int) (l : List UInt8) (h : ModelAt w base m d vd vp) (hl : l.length ≤ 4611686018427387904) (HROOM : d.wr.length + 1 ≤ maxLen ∧ (d.wr.length + 1) * 24 ≤ 140737488355328) :
    Calls Try.prog 33 #[.pointer (some ⟨m, 0, none⟩), .int .i64 at_, .string (bs l)] w fun e w' => e = .returned (.int .i64 (Dk.writeErr d at_ l.length)) ∧ UpdM base m vd vp w (Dk.write d at_ l) w' := by
  have hB := h.blk
  have hc3 : w.cell? ⟨m, 3, none⟩ = some (.bool d.down) := hB.cell 3
  have SM := Lib.hid (UpdM.same h)
  cases hdn : d.down
  case true =>
    rw [hdn] at hc3
    have E := Lib.hid hdn
    clear hdn h hB
    go_enter Try.func33, Try.ntmps33
    go_wp2
    go_ret
    rw [show Dk.write d at_ l = d from by simp [Dk.write, E.out], show Dk.writeErr d at_ l.length = 70 from by simp [Dk.writeErr, E.out]]
    exact ⟨rfl, SM.out⟩
  rw [hdn] at hc3
  have hsame := h.ok.same
  obtain ⟨gd, cd, rfl, hgd, hgd', hcd, hcm⟩ := own_form h.dur (by have := h.ok.many; omega)
  have hc0 : w.cell? ⟨m, 0, none⟩ = some (.slice (some ⟨gd, 0, none⟩) d.dur.length cd) := hB.cell 0
  have E := Lib.hid hdn
  have H := Lib.hid h
  have HS := Lib.hid hsame
  have hdn' : Hid (¬ d.down = true) := Lib.hid (by rw [hdn]; decide)
  clear hdn h hB hsame
  by_cases h1 : at_ < 0
  · have hd : decide (at_ < 0) = true := by simpa using h1
    go_enter Try.func33, Try.ntmps33
    go_wp2
    go_ret
    rw [show Dk.write d at_ l = d from by simp [Dk.write, h1], show Dk.writeErr d at_ l.length = 1 from by simp [Dk.writeErr, E.out, h1]]
    exact ⟨rfl, SM.out⟩
  have hd : decide (at_ < 0) = false := by simpa using h1
  by_cases h2 : (d.dur.length : Int) ≤ at_
  · have h2' : (d.now.length : Int) ≤ at_ := by have := HS.out; omega
    have H2 := Lib.hid h2'
    clear h2'
    go_enter Try.func33, Try.ntmps33
    go_wp2
    go_ret
    rw [show Dk.write d at_ l = d from by simp [Dk.write, H2.out], show Dk.writeErr d at_ l.length = 1 from by simp [Dk.writeErr, E.out, H2.out]]
    exact ⟨rfl, SM.out⟩
  have h12 : Hid (¬ (at_ < 0 ∨ (d.now.length : Int) ≤ at_)) := Lib.hid (by have := HS.out; omega)
  obtain ⟨S, hS⟩ : ∃ S, S = bs l := ⟨_, rfl⟩
  have hz : S.size = l.length := by rw [hS, bs_size]
  rw [← hS]
  have HSS := Lib.hid hS
  clear hS
  by_cases h3 : 64 < l.length
  · have h3' : (64 : Int) < (l.length : Int) := by omega
    go_enter Try.func33, Try.ntmps33
    go_wp2
    go_ret
    rw [show Dk.write d at_ l = d from by unfold Dk.write; rw [if_neg hdn'.out, if_neg h12.out, if_pos h3], show Dk.writeErr d at_ l.length = 2 from by unfold Dk.writeErr; rw [if_neg hdn'.out, if_neg h12.out, if_pos h3]]
    exact ⟨rfl, SM.out⟩
  have h3' : (l.length : Int) ≤ 64 := by omega
  cases hsp : Dk.spends d
  case false =>
    have HSP := Lib.hid hsp
    clear hsp
    go_enter Try.func33, Try.ntmps33
    go_wp2_with fail
    refine (mcall_calls m _ d _ _ H.out.blk H.out.ok.left E.out).mono ?_
    rw [HSP.out]
    rintro e w1 ⟨rfl, hb1, hch1⟩
    have HB1 := Lib.hid hb1
    have HC1 := Lib.hid hch1
    clear hb1 hch1
    go_wp2
    go_ret
    rw [show Dk.write d at_ l = Dk.spent d from by unfold Dk.write; rw [if_neg hdn'.out, if_neg h12.out, if_neg h3, HSP.out]; rfl, show Dk.writeErr d at_ l.length = 70 from by unfold Dk.writeErr; rw [if_neg hdn'.out, if_neg h12.out, if_neg h3, HSP.out]; rfl]
    exact ⟨rfl, UpdM.of_blk H.out HB1.out HC1.out (Dk.spent_dur d) (Dk.spent_wr d) (Dk.spent_ok H.out.ok)⟩
  have HSP := Lib.hid hsp
  clear hsp
  obtain ⟨k, rfl⟩ : ∃ k : Nat, at_ = k := ⟨at_.toNat, by omega⟩
  obtain ⟨A, cw, rfl, hcw, hcwm⟩ := own_shape H.out.wr
  obtain ⟨i0, hi0, hz0, hz1, hz2⟩ := info_parts Try.infoPut
  have HI0 := Lib.hid (And.intro hi0 (And.intro hz0 (And.intro hz1 hz2)))
  clear hi0 hz0 hz1 hz2
  have HP := Lib.hid (fun w => padded_calls l (by omega) w)
  have HROOM1 := HROOM.1
  have HROOM2 := HROOM.2
  clear HROOM
  go_enter Try.func33, Try.ntmps33
  go_wp2_with fail
  refine (mcall_calls m _ d _ _ H.out.blk H.out.ok.left E.out).mono ?_
  rw [HSP.out]
  rintro e w1 ⟨rfl, hb1, hch1⟩
  have hc1 : w1.cell? ⟨m, 1, none⟩ = some (.slice A d.wr.length cw) := hb1.cell 1
  have hO1 := hch1.own H.out.wr (fun k hk e => own_ne_blk H.out.wr H.out.blk (by decide) k hk e)
  have HB1 := Lib.hid hb1
  have HC1 := Lib.hid hch1
  have HO1 := Lib.hid hO1
  have hba : base ≤ w1.heap.size + 1 := by have := hb1.lt; have := H.out.low; omega
  clear hb1 hch1 hO1 hc3 hc0
  go_wp2_with fail
  refine wp_region_R (RL [(4, fun w' => w'.cell? ⟨m, 1, none⟩ = some (.slice A d.wr.length cw))]) (by kernel_rfl) (RL_cons hc1 (RL_nil _)) (fun hp => ?_)
  refine wpAnyR_take (i := 0) (oi := ⟨some 28, _, _, _, _, _⟩) (v := ?_) rfl (by kernel_rfl) (by kernel_rfl) (by kernel_rfl) (fun _ _ _ h => h) hp (.inl ⟨by rfl, fun w _ => ?_⟩) (fun hq => ?_)
  rotate_left
  · go_simp
    with_reducible rfl
  clear hp; have hp := hq; clear hq
  try simp only [Act.put, List.setIfInBounds_toArray, List.set_cons_zero, List.set_cons_succ]
  refine wpAnyR_take (i := 1) (oi := ⟨some 29, _, _, _, _, _⟩) (v := ?_) rfl (by kernel_rfl) (by kernel_rfl) (by kernel_rfl) (fun _ _ _ h => h) hp (.inl ⟨by rfl, fun w _ => ?_⟩) (fun hq => ?_)
  rotate_left
  · go_simp
    with_reducible rfl
  clear hp; have hp := hq; clear hq
  try simp only [Act.put, List.setIfInBounds_toArray, List.set_cons_zero, List.set_cons_succ]
  refine wpAnyR_take (i := 2) (oi := ⟨some 30, _, _, _, _, _⟩) (v := ?_) rfl (by kernel_rfl) (by kernel_rfl) (by kernel_rfl) (fun _ _ _ h => h) hp (.inl ⟨by rfl, fun w _ => ?_⟩) (fun hq => ?_)
  rotate_left
  · go_simp
    with_reducible rfl
  clear hp; have hp := hq; clear hq
  try simp only [Act.put, List.setIfInBounds_toArray, List.set_cons_zero, List.set_cons_succ]
  refine wpAnyR_take (i := 3) (oi := ⟨some 31, _, _, _, _, _⟩) (v := ?_) rfl (by kernel_rfl) (by kernel_rfl) (by kernel_rfl) (fun _ _ _ h => h) hp (.inl ⟨by rfl, fun w _ => ?_⟩) (fun hq => ?_)
  rotate_left
  · go_simp
    with_reducible rfl
  clear hp; have hp := hq; clear hq
  try simp only [Act.put, List.setIfInBounds_toArray, List.set_cons_zero, List.set_cons_succ]
  refine wpAnyR_take (i := 4) (oi := ⟨some 32, _, _, _, _, _⟩) (v := ?_) rfl (by kernel_rfl) (by kernel_rfl) (by kernel_rfl) (fun _ _ _ h => h) hp (.inl ⟨by rfl, fun w hR => ?_⟩) (fun hq => ?_)
  rotate_left
  · have hR := hR.1 rfl
    (try dsimp only at hR)
    go_simp
    with_reducible rfl
  clear hp; have hp := hq; clear hq
  try simp only [Act.put, List.setIfInBounds_toArray, List.set_cons_zero, List.set_cons_succ]
  refine wpAnyR_take (i := 5) (oi := ⟨some 33, _, _, _, _, _⟩) (v := ?_) rfl (by kernel_rfl) (by kernel_rfl) (by kernel_rfl) (fun _ _ _ h => h) hp (.inl ⟨by rfl, fun w _ => ?_⟩) (fun hq => ?_)
  rotate_left
  · go_simp
    with_reducible rfl
  clear hp; have hp := hq; clear hq
  try simp only [Act.put, List.setIfInBounds_toArray, List.set_cons_zero, List.set_cons_succ]
  refine wpAnyR_take (i := 6) (oi := ⟨some 34, _, _, _, _, _⟩) (v := ?_) rfl (by kernel_rfl) (by kernel_rfl) (by kernel_rfl) (fun _ _ _ h => h) hp (.inl ⟨by rfl, fun w _ => ?_⟩) (fun hq => ?_)
  rotate_left
  · go_simp
    with_reducible rfl
  clear hp; have hp := hq; clear hq
  try simp only [Act.put, List.setIfInBounds_toArray, List.set_cons_zero, List.set_cons_succ]
  refine wpAnyR_step (i := 7) (o := ⟨some 35, _, _, _, _, _⟩) (by kernel_rfl) rfl (by rfl) (fun K hK => ?_) -- Op.call { callee := Callee.value (Operand.func 43), args := #[Operand.tmp 34], argTypes := #[9] }
  go_simp
  rw [HSS.out]
  refine (HP.out _).mono ?_
  rintro e w' ⟨rfl, rfl⟩
  show K _ _
  have hS4 : w1.drew.cell? ⟨m, 1, none⟩ = some (.slice A d.wr.length cw) := by simpa using hc1
  refine hK _ _ (pend_on hS4 pend_nil) (fun hq => ?_)
  clear hp hK K; have hp := hq; clear hq
  try simp only [Act.put, List.setIfInBounds_toArray, List.set_cons_zero, List.set_cons_succ]
  refine wpAnyR_take (i := 8) (oi := ⟨some 36, _, _, _, _, _⟩) (v := ?_) rfl (by kernel_rfl) (by kernel_rfl) (by kernel_rfl) (fun _ _ _ h => h) hp (.inl ⟨by rfl, fun w _ => ?_⟩) (fun hq => ?_)
  rotate_left
  · go_simp
    with_reducible rfl
  clear hp; have hp := hq; clear hq
  try simp only [Act.put, List.setIfInBounds_toArray, List.set_cons_zero, List.set_cons_succ]
  refine wpAnyR_step (i := 9) (o := ⟨some 37, _, _, _, _, _⟩) (by kernel_rfl) rfl (by rfl) (fun K hK => ?_) -- Op.buildSlice 45 1 #[(0, Operand.tmp 36)]
  go_simp
  have hS4 : (w1.drew.alloc (.cells #[.int .i64 (k : Int), .string (bs (Dk.pad l))] 93)).cell? ⟨m, 1, none⟩ = some (.slice A d.wr.length cw) := by rw [World.cell?_alloc_some _ _ _ (by simp [hc1])]; simpa using hc1
  refine hK _ _ (pend_on hS4 pend_nil) (fun hq => ?_)
  clear hp hK K; have hp := hq; clear hq
  try simp only [Act.put, List.setIfInBounds_toArray, List.set_cons_zero, List.set_cons_succ]
  refine wpAnyR_step (i := 10) (o := ⟨some 38, _, _, _, _, _⟩) (by kernel_rfl) rfl (by rfl) (fun K hK => ?_) -- Op.call { callee := Callee.builtin Builtin.append, args := #[Operand.tmp 32, Operand.tmp 37], argTypes := #[45
  refine wp_append_lies _ _ _ _ rfl base 93 i0 _ 2 24 Try.underlying45 HI0.out.1 HI0.out.2.1 HI0.out.2.2.1 HI0.out.2.2.2 (by rfl) (by omega) _ _ _ rfl (HO1.out.drew.alloc _) ⟨w1.heap.size, 0, none⟩ 1 1 [.int .i64 (k : Int), .string (bs (Dk.pad l))] rfl rfl (World.news_of_block (cs := #[.int .i64 (k : Int), .string (bs (Dk.pad l))]) (t := 93) (fr := (0, 0)) (heap_alloc_new w1.drew _)) (by simp [Value.oneCell']) (by omega) HROOM1 HROOM2 (by simpa using hba) (w1.heap.size + 1) (by simp) ?_
  intro g' cap w4 hown hgrow hat hlt4
  have C4 : Chg (fun i => (Value.slice A d.wr.length cw).ownBlock = some i) w1 w4 := ((Chg.refl _ w1).drew.alloc _).trans (Chg.of_grownBy (fp := fun i => (Value.slice A d.wr.length cw).ownBlock = some i) hgrow (fun k hk => .inl hk)) (fun i hi => .inl hi)
  have HB4 := C4.blk HB1.out (fun e => own_ne_blk HO1.out HB1.out (by decide) m e rfl)
  have hc4 := HB4.cell 1
  have hf4 := HB4.frozen 1
  refine hK _ _ (pend_off (by kernel_rfl) pend_nil) (fun hq => ?_)
  clear hp hK K; have hp := hq; clear hq
  try simp only [Act.put, List.setIfInBounds_toArray, List.set_cons_zero, List.set_cons_succ]
  refine wpAnyR_take (i := 11) (oi := ⟨some 39, _, _, _, _, _⟩) (v := ?_) rfl (by kernel_rfl) (by kernel_rfl) (by kernel_rfl) (fun _ _ _ h => h) hp (.inl ⟨by rfl, fun w _ => ?_⟩) (fun hq => ?_)
  rotate_left
  · go_simp
    with_reducible rfl
  clear hp; have hp := hq; clear hq
  try simp only [Act.put, List.setIfInBounds_toArray, List.set_cons_zero, List.set_cons_succ]
  refine wpAnyR_take (i := 12) (oi := ⟨some 40, _, _, _, _, _⟩) (v := ?_) rfl (by kernel_rfl) (by kernel_rfl) (by kernel_rfl) (fun _ _ _ h => h) hp (.inl ⟨by rfl, fun w _ => ?_⟩) (fun hq => ?_)
  rotate_left
  · go_simp
    with_reducible rfl
  clear hp; have hp := hq; clear hq
  try simp only [Act.put, List.setIfInBounds_toArray, List.set_cons_zero, List.set_cons_succ]
  refine wpAnyR_step (i := 13) (o := ⟨none, _, _, _, _, _⟩) (by kernel_rfl) rfl (by rfl) (fun K hK => ?_) -- Op.store 45 (Operand.tmp 40) (Operand.tmp 38)
  go_simp
  refine hK _ _ (pend_off (by kernel_rfl) pend_nil) (fun hq => ?_)
  clear hp hK K; have hp := hq; clear hq
  try simp only [Act.put]
  refine wpAnyR_done (by kernel_rfl) ?_ _
  clear hp
  go_wp2
  go_ret
  have e1 : Dk.write d (k : Int) l = Dk.wrote (Dk.spent d) k (Dk.pad l) := by unfold Dk.write; rw [if_neg hdn'.out, if_neg h12.out, if_neg h3, HSP.out, if_pos rfl, Int.toNat_natCast]
  have hok := Dk.write_ok H.out.ok (k : Int) l
  rw [e1] at hok ⊢
  rw [show Dk.writeErr d (k : Int) l.length = 0 from by unfold Dk.writeErr; rw [if_neg hdn'.out, if_neg h12.out, if_neg h3, HSP.out, if_pos rfl]]
  have C5 : Chg (· = m) w4 (w4.setCell ⟨m, 1, none⟩ (.slice (some ⟨g', 0, none⟩) (d.wr.length + 1) cap)) := (Chg.refl (· = m) w4).setCell (p := ⟨m, 1, none⟩) (.inl rfl) _
  refine ⟨rfl, .slice (some ⟨gd, 0, none⟩) d.dur.length cd, .slice (some ⟨g', 0, none⟩) (d.wr.length + 1) cap, ⟨HB4.put 1 _, H.out.low, ?_, ?_, hok⟩, ?_, ?_⟩
  · rw [show (Dk.wrote (Dk.spent d) k (Dk.pad l)).dur = d.dur from Dk.spent_dur d]
    have h1 := HC1.out.own H.out.dur (fun k hk e => own_ne_blk H.out.dur H.out.blk (by decide) k hk e)
    exact C5.own (C4.own h1 (fun k hk e => own_ne_own HO1.out h1 (by decide) k k e hk rfl)) (fun k hk e => own_ne_blk H.out.dur H.out.blk (by decide) k hk e)
  · rw [show (Dk.wrote (Dk.spent d) k (Dk.pad l)).wr = d.wr ++ [(k, Dk.pad l)] from by simp [Dk.wrote, Dk.spent_wr], List.length_append, puts_snoc]
    exact C5.own hown (fun i hi e => own_ne_blk hown HB4 (by decide) i hi e)
  · exact ((HC1.out.mono (fp' := fpM m (.slice (some ⟨gd, 0, none⟩) d.dur.length cd) (.slice A d.wr.length cw)) (fun i _ hi => .inl hi)).trans C4 (fun i hi => .inl (.inr (.inr hi)))).trans C5 (fun i hi => .inl (.inl hi))
  · rintro q (hq | hq | hq)
    · exact .inl (.inl hq)
    · exact .inl (.inr (.inl hq))
    · have hqg : g' = q := by simpa [Value.ownBlock] using hq
      rcases hat with h | h
      · exact .inl (.inr (.inr (hqg ▸ h)))
      · right; have := HC1.out.size; omega

end Go.Proofs.Ytdnjelggdjimhaa
