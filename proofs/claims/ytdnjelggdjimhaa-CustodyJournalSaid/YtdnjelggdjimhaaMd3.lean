/-
  The walks of the reference disk's Flush and Crash, and of NewDisk where it refuses.
-/
import Derived.Test.YtdnjelggdjimhaaMd2
import Derived.Deep.DeepCutAuto
namespace Go.Proofs.Ytdnjelggdjimhaa
open Go.RowKit

structure MRel (fp : Nat → Prop) (w0 w1 : World) (base m : Nat) (d : Dk.D) (vd vp x y : Value) (l : List Dk.Sec) : Prop where
  blk : Blk w1 m 47 #[vd, vp, x, y]
  dur : w1.ownsRow base 9 1 vd d.dur.length (svs l)
  wr : w1.ownsRow base 93 2 vp d.wr.length (puts d.wr)
  chg : Chg fp w0 w1

theorem svs_set (x : Dk.Sec) : ∀ (l : List Dk.Sec) (k : Nat), k < l.length → splice (svs l) k [sv x] = svs (l.set k x)
  | [], k, h => by simp at h
  | y :: r, 0, _ => by simp [svs, splice]
  | y :: r, k + 1, h => by
    have ih := svs_set x r k (by simpa using h)
    simp only [svs, splice, List.map_cons, List.set_cons_succ, List.take_succ_cons, List.length_singleton, List.drop_succ_cons, List.cons_append] at ih ⊢
    rw [← ih]

theorem MRel.next {fp : Nat → Prop} {w0 w1 w3 : World} {base m gd cd : Nat} {d : Dk.D} {vp x y : Value} {l : List Dk.Sec} {k : Nat} {z : Dk.Sec} (hR : MRel fp w0 w1 base m d (.slice (some ⟨gd, 0, none⟩) d.dur.length cd) vp x y l)
    (hfp : fp gd) (hl : l.length = d.dur.length) (hk : k < d.dur.length) (h3 : ∃ w2, Chg (fun _ => False) w1 w2 ∧ w3 = w2.setCell ⟨gd, k, none⟩ (sv z)) :
    MRel fp w0 w3 base m d (.slice (some ⟨gd, 0, none⟩) d.dur.length cd) vp x y (l.set k z) := by
  obtain ⟨w2, h12, h3⟩ := h3
  have C : Chg (· = gd) w1 w3 := by rw [h3]; exact (h12.mono (fp' := (· = gd)) (fun _ _ h => h.elim)).setCell (p := ⟨gd, k, none⟩) (.inl rfl) _
  subst h3
  refine ⟨C.blk hR.blk (fun e => own_ne_blk hR.dur hR.blk (by decide) gd rfl e.symm), ?_, C.own hR.wr (fun k hk e => own_ne_own hR.wr hR.dur (by decide) k gd hk rfl e), ?_⟩
  · rw [← svs_set _ _ _ (by omega)]
    exact own_setCells (h12.own hR.dur (fun _ _ h => h)) k [sv z] (by simp; omega)
  · exact hR.chg.trans C (fun i hi => .inl (by rw [hi]; exact hfp))

set_option maxHeartbeats 1000000 in
theorem mflush_any {base m : Nat} {w : World} {d : Dk.D} {vd vp : Value} (h : ModelAt w base m d vd vp) :
    Calls Try.prog 34 #[.pointer (some ⟨m, 0, none⟩)] w fun e w' => e = .returned (.int .i64 (Dk.flushErr d)) ∧ UpdM base m vd vp w (Dk.flush d) w' := by
  have hB := h.blk
  have hc3 : w.cell? ⟨m, 3, none⟩ = some (.bool d.down) := hB.cell 3
  have SM := Lib.hid (UpdM.same h)
  cases hdn : d.down
  case true =>
    rw [hdn] at hc3
    have E := Lib.hid hdn
    clear hdn h hB
    go_enter Try.func34, Try.ntmps34
    go_wp2
    go_ret
    rw [show Dk.flush d = d from by simp [Dk.flush, E.out], show Dk.flushErr d = 70 from by simp [Dk.flushErr, E.out]]
    exact ⟨rfl, SM.out⟩
  rw [hdn] at hc3
  obtain ⟨gd, cd, rfl, hgd, hgd', hcd, hcm⟩ := own_form h.dur (by have := h.ok.many; have := h.ok.same; omega)
  have E := Lib.hid hdn
  have H := Lib.hid h
  clear hdn h hB
  cases hsp : Dk.spends d
  case false =>
    have HSP := Lib.hid hsp
    clear hsp
    go_enter Try.func34, Try.ntmps34
    go_wp2_with fail
    refine (mcall_calls m _ d _ _ H.out.blk H.out.ok.left E.out).mono ?_
    rw [HSP.out]
    rintro e w1 ⟨rfl, hb1, hch1⟩
    have HB1 := Lib.hid hb1
    have HC1 := Lib.hid hch1
    clear hb1 hch1
    go_wp2
    go_ret
    rw [show Dk.flush d = Dk.spent d from by simp [Dk.flush, E.out, HSP.out], show Dk.flushErr d = 70 from by simp [Dk.flushErr, E.out, HSP.out]]
    exact ⟨rfl, UpdM.of_blk H.out HB1.out HC1.out (Dk.spent_dur d) (Dk.spent_wr d) (Dk.spent_ok H.out.ok)⟩
  have HSP := Lib.hid hsp
  clear hsp
  obtain ⟨A, cw, rfl, hcw, hcwm⟩ := own_shape H.out.wr
  have hmax : d.wr.length ≤ 9223372036854775807 := by simp only [maxLen] at hcwm; omega
  go_enter Try.func34, Try.ntmps34
  go_wp2_with fail
  refine (mcall_calls m _ d _ _ H.out.blk H.out.ok.left E.out).mono ?_
  rw [HSP.out]
  rintro e w1 ⟨rfl, hb1, hch1⟩
  have hc1 : w1.cell? ⟨m, 1, none⟩ = some (.slice A d.wr.length cw) := hb1.cell 1
  have R0 : MRel (fun k => k = m ∨ (Value.slice (some ⟨gd, 0, none⟩) d.dur.length cd).ownBlock = some k) w w1 base m d (.slice (some ⟨gd, 0, none⟩) d.dur.length cd) (.slice A d.wr.length cw) (.int .i64 (leftOf (Dk.spent d))) (.bool (Dk.spent d).down) (Dk.putAll d.dur (d.wr.take 0)) :=
    ⟨hb1, hch1.own H.out.dur (fun k hk e => own_ne_blk H.out.dur H.out.blk (by decide) k hk e), hch1.own H.out.wr (fun k hk e => own_ne_blk H.out.wr H.out.blk (by decide) k hk e), hch1.mono (fun i _ hi => Or.inl hi)⟩
  have R := Lib.hid R0
  clear R0 hb1 hch1
  go_wp2_with fail
  go_loopg [3] d.wr.length (fun q i wr => ∃ k : Nat, k ≤ d.wr.length ∧ q + k = d.wr.length ∧ i = .int .i64 k ∧ Hid (MRel (fun k => k = m ∨ (Value.slice (some ⟨gd, 0, none⟩) d.dur.length cd).ownBlock = some k) w wr base m d (.slice (some ⟨gd, 0, none⟩) d.dur.length cd) (.slice A d.wr.length cw) (.int .i64 (leftOf (Dk.spent d))) (.bool (Dk.spent d).down) (Dk.putAll d.dur (d.wr.take k))))
  case atStart => exact ⟨0, Nat.zero_le _, rfl, rfl, R⟩
  case round =>
    obtain ⟨k, hk, hgk, rfl, hR⟩ := hrel
    by_cases hlt : k < d.wr.length
    · have hGK := Lib.hid hgk
      clear hgk hc1
      obtain ⟨gp, cp, hv, _⟩ := own_form hR.out.wr (by omega)
      obtain rfl : A = some ⟨gp, 0, none⟩ := by injection hv
      obtain ⟨p, hp⟩ : ∃ p, d.wr[k]? = some p := ⟨_, List.getElem?_eq_getElem hlt⟩
      have hpm := H.out.ok.wr64 p (List.mem_of_getElem? hp)
      obtain ⟨hp1, hp2⟩ := puts_get hp
      obtain ⟨S, hS⟩ : ∃ S, S = bs p.2 := ⟨_, rfl⟩
      rw [← hS] at hp2
      have hk1 : wr.cell? ⟨gp, k * 2, none⟩ = some (.int .i64 (p.1 : Int)) := own_range hR.out.wr (k * 2) [.int .i64 (p.1 : Int)] (fun j v hv => by
        match j, hv with
        | 0, hv => simp at hv; subst hv; exact hp1) 0 _ rfl
      have hk2 : wr.cell? ⟨gp, k * 2 + 1, none⟩ = some (.string S) := own_range hR.out.wr (k * 2 + 1) [.string S] (fun j v hv => by
        match j, hv with
        | 0, hv => simp at hv; subst hv; exact hp2) 0 _ rfl
      have hat : p.1 < d.dur.length := by rw [H.out.ok.same]; exact hpm.1
      have hc0 : wr.cell? ⟨m, 0, none⟩ = some (.slice (some ⟨gd, 0, none⟩) d.dur.length cd) := hR.out.blk.cell 0
      have hc1 : wr.cell? ⟨m, 1, none⟩ = some (.slice (some ⟨gp, 0, none⟩) d.wr.length cw) := hR.out.blk.cell 1
      have hll : (Dk.putAll d.dur (d.wr.take k)).length = d.dur.length := putAll_same d k
      have hcd0 : wr.cell? ⟨gd, p.1, none⟩ = some (.string (bs ((Dk.putAll d.dur (d.wr.take k)).getD p.1 Dk.zsec))) := own_range hR.out.dur p.1 [.string (bs ((Dk.putAll d.dur (d.wr.take k)).getD p.1 Dk.zsec))] (fun j v hv => by
        match j, hv with
        | 0, hv => simp at hv; subst hv; exact svs_get (by omega)) 0 _ rfl
      have hfr : wr.frozen? ⟨gd, p.1, none⟩ = false := by
        obtain ⟨cur, hb, _⟩ := own_parts hR.out.dur
        exact hb.frozen _
      have HS := Lib.hid hS
      have HP := Lib.hid hp
      have HLL := Lib.hid hll
      clear hv hp1 hp2 hS hp hpm hll
      go_wp2_with fail
      refine wp_region_R (RL [(3, fun w' => w'.cell? ⟨m, 0, none⟩ = some (.slice (some ⟨gd, 0, none⟩) d.dur.length cd)), (7, fun w' => w'.cell? ⟨m, 1, none⟩ = some (.slice (some ⟨gp, 0, none⟩) d.wr.length cw)), (11, fun w' => w'.cell? ⟨gp, k * 2, none⟩ = some (.int .i64 (p.1 : Int))), (15, fun w' => w'.cell? ⟨m, 1, none⟩ = some (.slice (some ⟨gp, 0, none⟩) d.wr.length cw)), (19, fun w' => w'.cell? ⟨gp, k * 2 + 1, none⟩ = some (.string S))]) (by kernel_rfl) (RL_cons hc0 (RL_cons hc1 (RL_cons hk1 (RL_cons hc1 (RL_cons hk2 (RL_nil _)))))) (fun hp => ?_)
      refine wpAnyR_take (i := 0) (oi := ⟨some 22, _, _, _, _, _⟩) (v := ?_) rfl (by kernel_rfl) (by kernel_rfl) (by kernel_rfl) (fun _ _ _ h => h) hp (.inl ⟨by rfl, fun w _ => ?_⟩) (fun hq => ?_)
      rotate_left
      · go_simp
        with_reducible rfl
      clear hp; have hp := hq; clear hq
      try simp only [Act.put, List.setIfInBounds_toArray, List.set_cons_zero, List.set_cons_succ]
      refine wpAnyR_take (i := 1) (oi := ⟨some 23, _, _, _, _, _⟩) (v := ?_) rfl (by kernel_rfl) (by kernel_rfl) (by kernel_rfl) (fun _ _ _ h => h) hp (.inl ⟨by rfl, fun w _ => ?_⟩) (fun hq => ?_)
      rotate_left
      · go_simp
        with_reducible rfl
      clear hp; have hp := hq; clear hq
      try simp only [Act.put, List.setIfInBounds_toArray, List.set_cons_zero, List.set_cons_succ]
      refine wpAnyR_take (i := 2) (oi := ⟨some 24, _, _, _, _, _⟩) (v := ?_) rfl (by kernel_rfl) (by kernel_rfl) (by kernel_rfl) (fun _ _ _ h => h) hp (.inl ⟨by rfl, fun w _ => ?_⟩) (fun hq => ?_)
      rotate_left
      · go_simp
        with_reducible rfl
      clear hp; have hp := hq; clear hq
      try simp only [Act.put, List.setIfInBounds_toArray, List.set_cons_zero, List.set_cons_succ]
      refine wpAnyR_take (i := 3) (oi := ⟨some 25, _, _, _, _, _⟩) (v := ?_) rfl (by kernel_rfl) (by kernel_rfl) (by kernel_rfl) (fun _ _ _ h => h) hp (.inl ⟨by rfl, fun w hR => ?_⟩) (fun hq => ?_)
      rotate_left
      · have hR := hR.1 rfl
        (try dsimp only at hR)
        go_simp
        with_reducible rfl
      clear hp; have hp := hq; clear hq
      try simp only [Act.put, List.setIfInBounds_toArray, List.set_cons_zero, List.set_cons_succ]
      refine wpAnyR_take (i := 4) (oi := ⟨some 26, _, _, _, _, _⟩) (v := ?_) rfl (by kernel_rfl) (by kernel_rfl) (by kernel_rfl) (fun _ _ _ h => h) hp (.inl ⟨by rfl, fun w _ => ?_⟩) (fun hq => ?_)
      rotate_left
      · go_simp
        with_reducible rfl
      clear hp; have hp := hq; clear hq
      try simp only [Act.put, List.setIfInBounds_toArray, List.set_cons_zero, List.set_cons_succ]
      refine wpAnyR_take (i := 5) (oi := ⟨some 27, _, _, _, _, _⟩) (v := ?_) rfl (by kernel_rfl) (by kernel_rfl) (by kernel_rfl) (fun _ _ _ h => h) hp (.inl ⟨by rfl, fun w _ => ?_⟩) (fun hq => ?_)
      rotate_left
      · go_simp
        with_reducible rfl
      clear hp; have hp := hq; clear hq
      try simp only [Act.put, List.setIfInBounds_toArray, List.set_cons_zero, List.set_cons_succ]
      refine wpAnyR_take (i := 6) (oi := ⟨some 28, _, _, _, _, _⟩) (v := ?_) rfl (by kernel_rfl) (by kernel_rfl) (by kernel_rfl) (fun _ _ _ h => h) hp (.inl ⟨by rfl, fun w _ => ?_⟩) (fun hq => ?_)
      rotate_left
      · go_simp
        with_reducible rfl
      clear hp; have hp := hq; clear hq
      try simp only [Act.put, List.setIfInBounds_toArray, List.set_cons_zero, List.set_cons_succ]
      refine wpAnyR_take (i := 7) (oi := ⟨some 29, _, _, _, _, _⟩) (v := ?_) rfl (by kernel_rfl) (by kernel_rfl) (by kernel_rfl) (fun _ _ _ h => h) hp (.inl ⟨by rfl, fun w hR => ?_⟩) (fun hq => ?_)
      rotate_left
      · have hR := hR.2.1 rfl
        (try dsimp only at hR)
        go_simp
        with_reducible rfl
      clear hp; have hp := hq; clear hq
      try simp only [Act.put, List.setIfInBounds_toArray, List.set_cons_zero, List.set_cons_succ]
      refine wpAnyR_take (i := 8) (oi := ⟨some 30, _, _, _, _, _⟩) (v := ?_) rfl (by kernel_rfl) (by kernel_rfl) (by kernel_rfl) (fun _ _ _ h => h) hp (.inl ⟨by rfl, fun w _ => ?_⟩) (fun hq => ?_)
      rotate_left
      · go_simp
        with_reducible rfl
      clear hp; have hp := hq; clear hq
      try simp only [Act.put, List.setIfInBounds_toArray, List.set_cons_zero, List.set_cons_succ]
      refine wpAnyR_take (i := 9) (oi := ⟨some 31, _, _, _, _, _⟩) (v := ?_) rfl (by kernel_rfl) (by kernel_rfl) (by kernel_rfl) (fun _ _ _ h => h) hp (.inl ⟨by rfl, fun w _ => ?_⟩) (fun hq => ?_)
      rotate_left
      · go_simp
        with_reducible rfl
      clear hp; have hp := hq; clear hq
      try simp only [Act.put, List.setIfInBounds_toArray, List.set_cons_zero, List.set_cons_succ]
      refine wpAnyR_take (i := 10) (oi := ⟨some 32, _, _, _, _, _⟩) (v := ?_) rfl (by kernel_rfl) (by kernel_rfl) (by kernel_rfl) (fun _ _ _ h => h) hp (.inl ⟨by rfl, fun w _ => ?_⟩) (fun hq => ?_)
      rotate_left
      · go_simp
        with_reducible rfl
      clear hp; have hp := hq; clear hq
      try simp only [Act.put, List.setIfInBounds_toArray, List.set_cons_zero, List.set_cons_succ]
      refine wpAnyR_take (i := 11) (oi := ⟨some 33, _, _, _, _, _⟩) (v := ?_) rfl (by kernel_rfl) (by kernel_rfl) (by kernel_rfl) (fun _ _ _ h => h) hp (.inl ⟨by rfl, fun w hR => ?_⟩) (fun hq => ?_)
      rotate_left
      · have hR := hR.2.2.1 rfl
        (try dsimp only at hR)
        go_simp
        with_reducible rfl
      clear hp; have hp := hq; clear hq
      try simp only [Act.put, List.setIfInBounds_toArray, List.set_cons_zero, List.set_cons_succ]
      refine wpAnyR_take (i := 12) (oi := ⟨some 34, _, _, _, _, _⟩) (v := ?_) rfl (by kernel_rfl) (by kernel_rfl) (by kernel_rfl) (fun _ _ _ h => h) hp (.inl ⟨by rfl, fun w _ => ?_⟩) (fun hq => ?_)
      rotate_left
      · go_simp
        with_reducible rfl
      clear hp; have hp := hq; clear hq
      try simp only [Act.put, List.setIfInBounds_toArray, List.set_cons_zero, List.set_cons_succ]
      refine wpAnyR_take (i := 13) (oi := ⟨some 35, _, _, _, _, _⟩) (v := ?_) rfl (by kernel_rfl) (by kernel_rfl) (by kernel_rfl) (fun _ _ _ h => h) hp (.inl ⟨by rfl, fun w _ => ?_⟩) (fun hq => ?_)
      rotate_left
      · go_simp
        with_reducible rfl
      clear hp; have hp := hq; clear hq
      try simp only [Act.put, List.setIfInBounds_toArray, List.set_cons_zero, List.set_cons_succ]
      refine wpAnyR_take (i := 14) (oi := ⟨some 36, _, _, _, _, _⟩) (v := ?_) rfl (by kernel_rfl) (by kernel_rfl) (by kernel_rfl) (fun _ _ _ h => h) hp (.inl ⟨by rfl, fun w _ => ?_⟩) (fun hq => ?_)
      rotate_left
      · go_simp
        with_reducible rfl
      clear hp; have hp := hq; clear hq
      try simp only [Act.put, List.setIfInBounds_toArray, List.set_cons_zero, List.set_cons_succ]
      refine wpAnyR_take (i := 15) (oi := ⟨some 37, _, _, _, _, _⟩) (v := ?_) rfl (by kernel_rfl) (by kernel_rfl) (by kernel_rfl) (fun _ _ _ h => h) hp (.inl ⟨by rfl, fun w hR => ?_⟩) (fun hq => ?_)
      rotate_left
      · have hR := hR.2.2.2.1 rfl
        (try dsimp only at hR)
        go_simp
        with_reducible rfl
      clear hp; have hp := hq; clear hq
      try simp only [Act.put, List.setIfInBounds_toArray, List.set_cons_zero, List.set_cons_succ]
      refine wpAnyR_take (i := 16) (oi := ⟨some 38, _, _, _, _, _⟩) (v := ?_) rfl (by kernel_rfl) (by kernel_rfl) (by kernel_rfl) (fun _ _ _ h => h) hp (.inl ⟨by rfl, fun w _ => ?_⟩) (fun hq => ?_)
      rotate_left
      · go_simp
        with_reducible rfl
      clear hp; have hp := hq; clear hq
      try simp only [Act.put, List.setIfInBounds_toArray, List.set_cons_zero, List.set_cons_succ]
      refine wpAnyR_take (i := 17) (oi := ⟨some 39, _, _, _, _, _⟩) (v := ?_) rfl (by kernel_rfl) (by kernel_rfl) (by kernel_rfl) (fun _ _ _ h => h) hp (.inl ⟨by rfl, fun w _ => ?_⟩) (fun hq => ?_)
      rotate_left
      · go_simp
        with_reducible rfl
      clear hp; have hp := hq; clear hq
      try simp only [Act.put, List.setIfInBounds_toArray, List.set_cons_zero, List.set_cons_succ]
      refine wpAnyR_take (i := 18) (oi := ⟨some 40, _, _, _, _, _⟩) (v := ?_) rfl (by kernel_rfl) (by kernel_rfl) (by kernel_rfl) (fun _ _ _ h => h) hp (.inl ⟨by rfl, fun w _ => ?_⟩) (fun hq => ?_)
      rotate_left
      · go_simp
        with_reducible rfl
      clear hp; have hp := hq; clear hq
      try simp only [Act.put, List.setIfInBounds_toArray, List.set_cons_zero, List.set_cons_succ]
      refine wpAnyR_take (i := 19) (oi := ⟨some 41, _, _, _, _, _⟩) (v := ?_) rfl (by kernel_rfl) (by kernel_rfl) (by kernel_rfl) (fun _ _ _ h => h) hp (.inl ⟨by rfl, fun w hR => ?_⟩) (fun hq => ?_)
      rotate_left
      · have hR := hR.2.2.2.2.1 rfl
        (try dsimp only at hR)
        go_simp
        with_reducible rfl
      clear hp; have hp := hq; clear hq
      try simp only [Act.put, List.setIfInBounds_toArray, List.set_cons_zero, List.set_cons_succ]
      refine wpAnyR_take (i := 20) (oi := ⟨some 42, _, _, _, _, _⟩) (v := ?_) rfl (by kernel_rfl) (by kernel_rfl) (by kernel_rfl) (fun _ _ _ h => h) hp (.inl ⟨by rfl, fun w _ => ?_⟩) (fun hq => ?_)
      rotate_left
      · go_simp
        with_reducible rfl
      clear hp; have hp := hq; clear hq
      try simp only [Act.put, List.setIfInBounds_toArray, List.set_cons_zero, List.set_cons_succ]
      refine wpAnyR_step (i := 21) (o := ⟨none, _, _, _, _, _⟩) (by kernel_rfl) rfl (by rfl) (fun K hK => ?_) -- Op.store 9 (Operand.tmp 42) (Operand.tmp 41)
      go_simp
      refine hK _ _ (pend_off (by kernel_rfl) (pend_off (by kernel_rfl) (pend_off (by kernel_rfl) (pend_off (by kernel_rfl) (pend_off (by kernel_rfl) pend_nil))))) (fun hq => ?_)
      clear hp hK K; have hp := hq; clear hq
      try simp only [Act.put]
      refine wpAnyR_done (by kernel_rfl) ?_ _
      clear hp
      go_wp2
      have hgk' := hGK.out
      go_roundg (gk - 1)
      case measure => omega
      case rel =>
        refine ⟨k + 1, by omega, by omega, by go_num, Lib.hid ?_⟩
        have := hR.out.next (k := p.1) (z := p.2) (.inr rfl) HLL.out hat ⟨_, (Chg.refl _ wr).drew, rfl⟩
        rw [Dk.putAll_take _ _ _ _ HP.out]
        unfold Dk.put1
        rw [HS.out]
        exact this
    · obtain rfl : k = d.wr.length := by omega
      have hf1 : wr.frozen? ⟨m, 1, none⟩ = false := hR.out.blk.frozen 1
      have hc1' : wr.cell? ⟨m, 1, none⟩ = some (.slice A d.wr.length cw) := hR.out.blk.cell 1
      go_wp2
      go_ret
      have hR' := hR.out
      rw [List.take_length] at hR'
      have e1 : Dk.flush d = Dk.flushed (Dk.spent d) := by simp [Dk.flush, E.out, HSP.out]
      have hok : Dk.Ok (Dk.flushed (Dk.spent d)) := Dk.flushed_ok (Dk.spent_ok H.out.ok)
      have hb := hR'.blk.put 1 (.slice none 0 0)
      have hc := (Chg.refl (· = m) wr).setCell (p := ⟨m, 1, none⟩) (.inl rfl) (.slice none 0 0)
      rw [show Dk.flushErr d = 0 from by simp [Dk.flushErr, E.out, HSP.out], e1]
      refine ⟨rfl, .slice (some ⟨gd, 0, none⟩) d.dur.length cd, .slice none 0 0, ⟨hb, H.out.low, ?_, World.ownsRow_nil _ _ _ _, hok⟩, ?_, ?_⟩
      · rw [show (Dk.flushed (Dk.spent d)).dur = Dk.putAll d.dur d.wr from by simp [Dk.flushed, Dk.spent_dur, Dk.spent_wr], Dk.length_putAll]
        exact hc.own hR'.dur (fun k hk e => own_ne_blk hR'.dur hR'.blk (by decide) k hk e)
      · exact (hR'.chg.trans hc (fun i hi => .inl (.inl hi))).mono (fun i _ hi => hi.elim .inl (fun h => .inr (.inl h)))
      · rintro q (hq | hq | hq)
        · exact .inl (.inl hq)
        · exact .inl (.inr (.inl hq))
        · cases hq

end Go.Proofs.Ytdnjelggdjimhaa
