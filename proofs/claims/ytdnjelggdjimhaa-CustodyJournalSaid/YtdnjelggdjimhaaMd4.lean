/-
  The walk of the reference disk's Crash, and of NewDisk where it refuses.
-/
import Derived.Test.YtdnjelggdjimhaaMd3
import Derived.Deep.DeepCutAuto
namespace Go.Proofs.Ytdnjelggdjimhaa
open Go.RowKit

theorem bs_take (l : List UInt8) (m : Nat) : (bs l).extract 0 m = bs (l.take m) := by
  apply ByteArray.ext
  simp [bs, ByteArray.data_extract]
theorem bs_drop (l : List UInt8) (m n : Nat) (h : l.length ≤ n) : (bs l).extract m n = bs (l.drop m) := by
  apply ByteArray.ext
  simp [bs, ByteArray.data_extract]
  rw [List.take_of_length_le (by simp; omega)]

set_option maxRecDepth 100000 in
set_option maxHeartbeats 1000000 in
theorem mcrash_any {base m : Nat} {w : World} {d : Dk.D} {vd vp : Value} (A : Option Addr) (n c : Nat) (keep : List Int) (h : ModelAt w base m d vd vp) (hn : n = keep.length) (hk : KeepAt w vd A keep) :
    Calls Try.prog 36 #[.pointer (some ⟨m, 0, none⟩), .slice A n c] w fun e w' => e = .returned (.tuple #[]) ∧ UpdM base m vd vp w (Dk.crash d keep) w' := by
  have hB := h.blk
  obtain ⟨gd, cd, rfl, hgd, hgd', hcd, hcm⟩ := own_form h.dur (by have := h.ok.many; have := h.ok.same; omega)
  obtain ⟨B, cw, rfl, hcw, hcwm⟩ := own_shape h.wr
  have hmax : d.wr.length ≤ 9223372036854775807 := by simp only [maxLen] at hcwm; omega
  have hc1 : w.cell? ⟨m, 1, none⟩ = some (.slice B d.wr.length cw) := hB.cell 1
  have R0 : MRel (gd = ·) w w base m d (.slice (some ⟨gd, 0, none⟩) d.dur.length cd) (.slice B d.wr.length cw) (.int .i64 (leftOf d)) (.bool d.down) (Dk.tornFrom keep 0 d.dur (d.wr.take 0)) := ⟨hB, h.dur, h.wr, Chg.refl _ _⟩
  have R := Lib.hid R0
  have H := Lib.hid h
  have HN := Lib.hid hn
  have HK := Lib.hid hk
  clear h hB R0 hn hk
  go_enter Try.func36, Try.ntmps36
  go_wp2_with fail
  go_loopg [4] d.wr.length (fun q i wr => ∃ k : Nat, k ≤ d.wr.length ∧ q + k = d.wr.length ∧ i = .int .i64 k ∧ Hid (MRel (gd = ·) w wr base m d (.slice (some ⟨gd, 0, none⟩) d.dur.length cd) (.slice B d.wr.length cw) (.int .i64 (leftOf d)) (.bool d.down) (Dk.tornFrom keep 0 d.dur (d.wr.take k))))
  case atStart => exact ⟨0, Nat.zero_le _, rfl, rfl, R⟩
  case round =>
    obtain ⟨k, hk, hgk, rfl, hR⟩ := hrel
    by_cases hlt : k < d.wr.length
    · have hGK := Lib.hid hgk
      clear hgk hc1
      have hc1 : wr.cell? ⟨m, 1, none⟩ = some (.slice B d.wr.length cw) := hR.out.blk.cell 1
      obtain ⟨p, hp⟩ : ∃ p, d.wr[k]? = some p := ⟨_, List.getElem?_eq_getElem hlt⟩
      have HP := Lib.hid hp
      clear hp
      obtain ⟨q, hq⟩ : ∃ q, q = Dk.keptOf keep k := ⟨_, rfl⟩
      have hq64 : (q : Int) ≤ 64 := by rw [hq]; exact Int.ofNat_le.2 (Dk.keptOf_le _ _)
      have hCX : Hid (k < n → ∃ ad, A = some ad ∧ wr.cell? (ad.add k) = some (.int .i64 (keep.getD k 0))) := Lib.hid fun hkl => by
        have hne : keep ≠ [] := fun e => by have := HN.out; rw [e] at this; simp at this; omega
        obtain ⟨ad, rfl, hadb, hcell⟩ := HK.out.resolve_left hne
        have hcx : w.cell? (ad.add k) = some (.int .i64 (keep.getD k 0)) := hcell k (by rw [← HN.out]; exact hkl)
        have hbl : (ad.add k).block = ad.block := by unfold Addr.add; split <;> rfl
        refine ⟨ad, rfl, ?_⟩
        rw [hR.out.chg.cell (World.block_lt_of_cell? w _ hcx) ?_]
        · exact hcx
        · rw [hbl]
          intro e
          exact hadb (by rw [← e]; rfl)
      have HQ := Lib.hid hq
      clear hq
      obtain ⟨gp, cp, hv, _⟩ := own_form hR.out.wr (by omega)
      obtain rfl : B = some ⟨gp, 0, none⟩ := by injection hv
      clear hv
      go_upto_if 19 with fail
      go_cut [5] (fun s5 wx => s5 = .int .i64 (q : Int) ∧ wx = wr)
      case first =>
        by_cases hkl : k < n
        · obtain ⟨ad, rfl, hcx⟩ := hCX.out hkl
          have hmv := HQ.out
          unfold Dk.keptOf at hmv
          obtain ⟨x, hx⟩ : ∃ x, x = keep.getD k 0 := ⟨_, rfl⟩
          rw [← hx] at hcx hmv
          have HMV := Lib.hid hmv
          clear hx hmv
          go_wp2
          all_goals (go_meet; exact ⟨by have := HMV.out; congr 1; omega, rfl⟩)
        · have hmv : q = 0 := by
            rw [HQ.out]
            unfold Dk.keptOf
            rw [List.getD_eq_getElem?_getD, List.getElem?_eq_none (by rw [← HN.out]; omega)]
            rfl
          subst hmv
          go_wp2
          go_meet
          exact ⟨rfl, rfl⟩
      case rest =>
        obtain ⟨rfl, rfl⟩ := hcut
        have hpm := H.out.ok.wr64 p (List.mem_of_getElem? HP.out)
        obtain ⟨hp1, hp2⟩ := puts_get HP.out
        obtain ⟨S, hS⟩ : ∃ S, S = bs p.2 := ⟨_, rfl⟩
        have hSz : S.size = 64 := by rw [hS, bs_size]; exact hpm.2
        rw [← hS] at hp2
        have hk1 : wc.cell? ⟨gp, k * 2, none⟩ = some (.int .i64 (p.1 : Int)) := own_range hR.out.wr (k * 2) [.int .i64 (p.1 : Int)] (fun j v hv => by
          match j, hv with
          | 0, hv => simp at hv; subst hv; exact hp1) 0 _ rfl
        have hk2 : wc.cell? ⟨gp, k * 2 + 1, none⟩ = some (.string S) := own_range hR.out.wr (k * 2 + 1) [.string S] (fun j v hv => by
          match j, hv with
          | 0, hv => simp at hv; subst hv; exact hp2) 0 _ rfl
        have hat : p.1 < d.dur.length := by rw [H.out.ok.same]; exact hpm.1
        have hc0 : wc.cell? ⟨m, 0, none⟩ = some (.slice (some ⟨gd, 0, none⟩) d.dur.length cd) := hR.out.blk.cell 0
        have hll : (Dk.tornFrom keep 0 d.dur (d.wr.take k)).length = d.dur.length := Dk.length_tornFrom _ _ _ _
        have h64 : ∀ s ∈ Dk.tornFrom keep 0 d.dur (d.wr.take k), s.length = 64 := Dk.tornFrom_64 _ _ _ _ H.out.ok.dur64 (fun q hq => (H.out.ok.wr64 q (List.mem_of_mem_take hq)).2)
        obtain ⟨T, hT⟩ : ∃ T, T = bs ((Dk.tornFrom keep 0 d.dur (d.wr.take k)).getD p.1 Dk.zsec) := ⟨_, rfl⟩
        have hTz : T.size = 64 := by rw [hT, bs_size]; exact Dk.getD_64 h64 _
        have hcd0 : wc.cell? ⟨gd, p.1, none⟩ = some (.string T) := own_range hR.out.dur p.1 [.string T] (fun j v hv => by
          match j, hv with
          | 0, hv => simp at hv; subst hv; rw [hT]; exact svs_get (by omega)) 0 _ rfl
        have hfr : wc.frozen? ⟨gd, p.1, none⟩ = false := by
          obtain ⟨cur, hb, _⟩ := own_parts hR.out.dur
          exact hb.frozen _
        have HST := Lib.hid (And.intro hS (And.intro hT hpm))
        have HLL := Lib.hid (And.intro hll h64)
        clear hp1 hp2 hpm hll h64 hS hT
        go_wp2_with fail
        obtain ⟨wX, hwX⟩ : ∃ wX, wX = wc.alloc (.cells #[.int .i64 (p.1 : Int), .string S] 93) := ⟨_, rfl⟩
        rw [← hwX]
        have CX : Chg (fun _ => False) wc wX := by rw [hwX]; exact (Chg.refl _ wc).alloc _
        have HBX : Blk wX wc.heap.size 93 #[.int .i64 (p.1 : Int), .string S] := by rw [hwX]; exact Blk.fresh _ _ _
        have hx0 : wX.cell? ⟨wc.heap.size, 0, none⟩ = some (.int .i64 (p.1 : Int)) := HBX.cell 0
        have hx1 : wX.cell? ⟨wc.heap.size, 1, none⟩ = some (.string S) := HBX.cell 1
        have hxd : wX.cell? ⟨gd, p.1, none⟩ = some (.string T) := (CX.cell (World.block_lt_of_cell? wc _ hcd0) (fun h => h)).trans hcd0
        have hxf : wX.frozen? ⟨gd, p.1, none⟩ = false := by
          obtain ⟨cur, hb, _⟩ := own_parts (CX.own hR.out.dur (fun _ _ h => h))
          exact hb.frozen _
        have hxm : wX.cell? ⟨m, 0, none⟩ = some (.slice (some ⟨gd, 0, none⟩) d.dur.length cd) := (CX.cell (World.block_lt_of_cell? wc _ hc0) (fun h => h)).trans hc0
        clear hwX hc0 hcd0 hfr hk1 hk2
        have hq0 : (0 : Int) ≤ (q : Int) := Int.natCast_nonneg _
        refine wp_region_R (RL [(3, fun w' => w'.cell? ⟨m, 0, none⟩ = some (.slice (some ⟨gd, 0, none⟩) d.dur.length cd)), (5, fun w' => w'.cell? ⟨wc.heap.size, 0, none⟩ = some (.int .i64 (p.1 : Int))), (7, fun w' => w'.cell? ⟨wc.heap.size, 1, none⟩ = some (.string S)), (13, fun w' => w'.cell? ⟨m, 0, none⟩ = some (.slice (some ⟨gd, 0, none⟩) d.dur.length cd)), (15, fun w' => w'.cell? ⟨wc.heap.size, 0, none⟩ = some (.int .i64 (p.1 : Int))), (17, fun w' => w'.cell? ⟨gd, p.1, none⟩ = some (.string T))]) (by kernel_rfl) (RL_cons hxm (RL_cons hx0 (RL_cons hx1 (RL_cons hxm (RL_cons hx0 (RL_cons hxd (RL_nil _))))))) (fun hp => ?_)
        refine wpAnyR_take (i := 0) (oi := ⟨some 33, _, _, _, _, _⟩) (v := ?_) rfl (by kernel_rfl) (by kernel_rfl) (by kernel_rfl) (fun _ _ _ h => h) hp (.inl ⟨by rfl, fun w _ => ?_⟩) (fun hq => ?_)
        rotate_left
        · go_simp
          with_reducible rfl
        clear hp; have hp := hq; clear hq
        try simp only [Act.put, List.setIfInBounds_toArray, List.set_cons_zero, List.set_cons_succ]
        refine wpAnyR_take (i := 1) (oi := ⟨some 34, _, _, _, _, _⟩) (v := ?_) rfl (by kernel_rfl) (by kernel_rfl) (by kernel_rfl) (fun _ _ _ h => h) hp (.inl ⟨by rfl, fun w _ => ?_⟩) (fun hq => ?_)
        rotate_left
        · go_simp
          with_reducible rfl
        clear hp; have hp := hq; clear hq
        try simp only [Act.put, List.setIfInBounds_toArray, List.set_cons_zero, List.set_cons_succ]
        refine wpAnyR_take (i := 2) (oi := ⟨some 35, _, _, _, _, _⟩) (v := ?_) rfl (by kernel_rfl) (by kernel_rfl) (by kernel_rfl) (fun _ _ _ h => h) hp (.inl ⟨by rfl, fun w _ => ?_⟩) (fun hq => ?_)
        rotate_left
        · go_simp
          with_reducible rfl
        clear hp; have hp := hq; clear hq
        try simp only [Act.put, List.setIfInBounds_toArray, List.set_cons_zero, List.set_cons_succ]
        refine wpAnyR_take (i := 3) (oi := ⟨some 36, _, _, _, _, _⟩) (v := ?_) rfl (by kernel_rfl) (by kernel_rfl) (by kernel_rfl) (fun _ _ _ h => h) hp (.inl ⟨by rfl, fun w hR => ?_⟩) (fun hq => ?_)
        rotate_left
        · have hR := hR.1 rfl
          (try dsimp only at hR)
          go_simp
          with_reducible rfl
        clear hp; have hp := hq; clear hq
        try simp only [Act.put, List.setIfInBounds_toArray, List.set_cons_zero, List.set_cons_succ]
        refine wpAnyR_take (i := 4) (oi := ⟨some 37, _, _, _, _, _⟩) (v := ?_) rfl (by kernel_rfl) (by kernel_rfl) (by kernel_rfl) (fun _ _ _ h => h) hp (.inl ⟨by rfl, fun w _ => ?_⟩) (fun hq => ?_)
        rotate_left
        · go_simp
          with_reducible rfl
        clear hp; have hp := hq; clear hq
        try simp only [Act.put, List.setIfInBounds_toArray, List.set_cons_zero, List.set_cons_succ]
        refine wpAnyR_take (i := 5) (oi := ⟨some 38, _, _, _, _, _⟩) (v := ?_) rfl (by kernel_rfl) (by kernel_rfl) (by kernel_rfl) (fun _ _ _ h => h) hp (.inl ⟨by rfl, fun w hR => ?_⟩) (fun hq => ?_)
        rotate_left
        · have hR := hR.2.1 rfl
          (try dsimp only at hR)
          go_simp
          with_reducible rfl
        clear hp; have hp := hq; clear hq
        try simp only [Act.put, List.setIfInBounds_toArray, List.set_cons_zero, List.set_cons_succ]
        refine wpAnyR_take (i := 6) (oi := ⟨some 39, _, _, _, _, _⟩) (v := ?_) rfl (by kernel_rfl) (by kernel_rfl) (by kernel_rfl) (fun _ _ _ h => h) hp (.inl ⟨by rfl, fun w _ => ?_⟩) (fun hq => ?_)
        rotate_left
        · go_simp
          with_reducible rfl
        clear hp; have hp := hq; clear hq
        try simp only [Act.put, List.setIfInBounds_toArray, List.set_cons_zero, List.set_cons_succ]
        refine wpAnyR_take (i := 7) (oi := ⟨some 40, _, _, _, _, _⟩) (v := ?_) rfl (by kernel_rfl) (by kernel_rfl) (by kernel_rfl) (fun _ _ _ h => h) hp (.inl ⟨by rfl, fun w hR => ?_⟩) (fun hq => ?_)
        rotate_left
        · have hR := hR.2.2.1 rfl
          (try dsimp only at hR)
          go_simp
          with_reducible rfl
        clear hp; have hp := hq; clear hq
        try simp only [Act.put, List.setIfInBounds_toArray, List.set_cons_zero, List.set_cons_succ]
        refine wpAnyR_take (i := 8) (oi := ⟨some 41, _, _, _, _, _⟩) (v := ?_) rfl (by kernel_rfl) (by kernel_rfl) (by kernel_rfl) (fun _ _ _ h => h) hp (.inl ⟨by rfl, fun w _ => ?_⟩) (fun hq => ?_)
        rotate_left
        · go_simp
          with_reducible rfl
        clear hp; have hp := hq; clear hq
        try simp only [Act.put, List.setIfInBounds_toArray, List.set_cons_zero, List.set_cons_succ]
        refine wpAnyR_take (i := 9) (oi := ⟨some 42, _, _, _, _, _⟩) (v := ?_) rfl (by kernel_rfl) (by kernel_rfl) (by kernel_rfl) (fun _ _ _ h => h) hp (.inl ⟨by rfl, fun w _ => ?_⟩) (fun hq => ?_)
        rotate_left
        · go_simp
          with_reducible rfl
        clear hp; have hp := hq; clear hq
        try simp only [Act.put, List.setIfInBounds_toArray, List.set_cons_zero, List.set_cons_succ]
        refine wpAnyR_take (i := 10) (oi := ⟨some 43, _, _, _, _, _⟩) (v := ?_) rfl (by kernel_rfl) (by kernel_rfl) (by kernel_rfl) (fun _ _ _ h => h) hp (.inl ⟨by rfl, fun w _ => ?_⟩) (fun hq => ?_)
        rotate_left
        · go_simp
          with_reducible rfl
        clear hp; have hp := hq; clear hq
        try simp only [Act.put, List.setIfInBounds_toArray, List.set_cons_zero, List.set_cons_succ]
        refine wpAnyR_take (i := 11) (oi := ⟨some 44, _, _, _, _, _⟩) (v := ?_) rfl (by kernel_rfl) (by kernel_rfl) (by kernel_rfl) (fun _ _ _ h => h) hp (.inl ⟨by rfl, fun w _ => ?_⟩) (fun hq => ?_)
        rotate_left
        · go_simp
          with_reducible rfl
        clear hp; have hp := hq; clear hq
        try simp only [Act.put, List.setIfInBounds_toArray, List.set_cons_zero, List.set_cons_succ]
        refine wpAnyR_take (i := 12) (oi := ⟨some 45, _, _, _, _, _⟩) (v := ?_) rfl (by kernel_rfl) (by kernel_rfl) (by kernel_rfl) (fun _ _ _ h => h) hp (.inl ⟨by rfl, fun w _ => ?_⟩) (fun hq => ?_)
        rotate_left
        · go_simp
          with_reducible rfl
        clear hp; have hp := hq; clear hq
        try simp only [Act.put, List.setIfInBounds_toArray, List.set_cons_zero, List.set_cons_succ]
        refine wpAnyR_take (i := 13) (oi := ⟨some 46, _, _, _, _, _⟩) (v := ?_) rfl (by kernel_rfl) (by kernel_rfl) (by kernel_rfl) (fun _ _ _ h => h) hp (.inl ⟨by rfl, fun w hR => ?_⟩) (fun hq => ?_)
        rotate_left
        · have hR := hR.2.2.2.1 rfl
          (try dsimp only at hR)
          go_simp
          with_reducible rfl
        clear hp; have hp := hq; clear hq
        try simp only [Act.put, List.setIfInBounds_toArray, List.set_cons_zero, List.set_cons_succ]
        refine wpAnyR_take (i := 14) (oi := ⟨some 47, _, _, _, _, _⟩) (v := ?_) rfl (by kernel_rfl) (by kernel_rfl) (by kernel_rfl) (fun _ _ _ h => h) hp (.inl ⟨by rfl, fun w _ => ?_⟩) (fun hq => ?_)
        rotate_left
        · go_simp
          with_reducible rfl
        clear hp; have hp := hq; clear hq
        try simp only [Act.put, List.setIfInBounds_toArray, List.set_cons_zero, List.set_cons_succ]
        refine wpAnyR_take (i := 15) (oi := ⟨some 48, _, _, _, _, _⟩) (v := ?_) rfl (by kernel_rfl) (by kernel_rfl) (by kernel_rfl) (fun _ _ _ h => h) hp (.inl ⟨by rfl, fun w hR => ?_⟩) (fun hq => ?_)
        rotate_left
        · have hR := hR.2.2.2.2.1 rfl
          (try dsimp only at hR)
          go_simp
          with_reducible rfl
        clear hp; have hp := hq; clear hq
        try simp only [Act.put, List.setIfInBounds_toArray, List.set_cons_zero, List.set_cons_succ]
        refine wpAnyR_take (i := 16) (oi := ⟨some 49, _, _, _, _, _⟩) (v := ?_) rfl (by kernel_rfl) (by kernel_rfl) (by kernel_rfl) (fun _ _ _ h => h) hp (.inl ⟨by rfl, fun w _ => ?_⟩) (fun hq => ?_)
        rotate_left
        · go_simp
          with_reducible rfl
        clear hp; have hp := hq; clear hq
        try simp only [Act.put, List.setIfInBounds_toArray, List.set_cons_zero, List.set_cons_succ]
        refine wpAnyR_take (i := 17) (oi := ⟨some 50, _, _, _, _, _⟩) (v := ?_) rfl (by kernel_rfl) (by kernel_rfl) (by kernel_rfl) (fun _ _ _ h => h) hp (.inl ⟨by rfl, fun w hR => ?_⟩) (fun hq => ?_)
        rotate_left
        · have hR := hR.2.2.2.2.2.1 rfl
          (try dsimp only at hR)
          go_simp
          with_reducible rfl
        clear hp; have hp := hq; clear hq
        try simp only [Act.put, List.setIfInBounds_toArray, List.set_cons_zero, List.set_cons_succ]
        refine wpAnyR_take (i := 18) (oi := ⟨some 51, _, _, _, _, _⟩) (v := ?_) rfl (by kernel_rfl) (by kernel_rfl) (by kernel_rfl) (fun _ _ _ h => h) hp (.inl ⟨by rfl, fun w _ => ?_⟩) (fun hq => ?_)
        rotate_left
        · go_simp
          with_reducible rfl
        clear hp; have hp := hq; clear hq
        try simp only [Act.put, List.setIfInBounds_toArray, List.set_cons_zero, List.set_cons_succ]
        refine wpAnyR_take (i := 19) (oi := ⟨some 52, _, _, _, _, _⟩) (v := ?_) rfl (by kernel_rfl) (by kernel_rfl) (by kernel_rfl) (fun _ _ _ h => h) hp (.inl ⟨by rfl, fun w _ => ?_⟩) (fun hq => ?_)
        rotate_left
        · go_simp
          with_reducible rfl
        clear hp; have hp := hq; clear hq
        try simp only [Act.put, List.setIfInBounds_toArray, List.set_cons_zero, List.set_cons_succ]
        refine wpAnyR_take (i := 20) (oi := ⟨some 53, _, _, _, _, _⟩) (v := ?_) rfl (by kernel_rfl) (by kernel_rfl) (by kernel_rfl) (fun _ _ _ h => h) hp (.inl ⟨by rfl, fun w _ => ?_⟩) (fun hq => ?_)
        rotate_left
        · go_simp
          rw [if_neg (by omega)]
        clear hp; have hp := hq; clear hq
        try simp only [Act.put, List.setIfInBounds_toArray, List.set_cons_zero, List.set_cons_succ]
        refine wpAnyR_take (i := 21) (oi := ⟨some 54, _, _, _, _, _⟩) (v := ?_) rfl (by kernel_rfl) (by kernel_rfl) (by kernel_rfl) (fun _ _ _ h => h) hp (.inl ⟨by rfl, fun w _ => ?_⟩) (fun hq => ?_)
        rotate_left
        · go_simp
          with_reducible rfl
        clear hp; have hp := hq; clear hq
        try simp only [Act.put, List.setIfInBounds_toArray, List.set_cons_zero, List.set_cons_succ]
        refine wpAnyR_step (i := 22) (o := ⟨none, _, _, _, _, _⟩) (by kernel_rfl) rfl (by rfl) (fun K hK => ?_) -- Op.store 9 (Operand.tmp 54) (Operand.tmp 53)
        go_simp
        refine hK _ _ (pend_off (by kernel_rfl) (pend_off (by kernel_rfl) (pend_off (by kernel_rfl) (pend_off (by kernel_rfl) (pend_off (by kernel_rfl) (pend_off (by kernel_rfl) pend_nil)))))) (fun hq => ?_)
        clear hp hK K; have hp := hq; clear hq
        try simp only [Act.put]
        refine wpAnyR_done (by kernel_rfl) ?_ _
        clear hp
        go_wp2
        have hgk' := hGK.out
        go_roundg (gk - 1)
        case measure => omega
        case rel =>
          refine ⟨k + 1, by omega, by omega, by go_num, Lib.hid ?_⟩
          have := hR.out.next (k := p.1) (z := p.2.take q ++ ((Dk.tornFrom keep 0 d.dur (d.wr.take k)).getD p.1 Dk.zsec).drop q) rfl HLL.out.1 hat ⟨_, CX.drew, rfl⟩
          rw [Dk.tornFrom_take _ _ _ _ _ HP.out]
          unfold Dk.torn1
          rw [← HQ.out, HST.out.1, HST.out.2.1, bs_take, bs_drop _ _ _ (by rw [Dk.getD_64 HLL.out.2]; exact Nat.le_refl _), bs_append]
          exact this
    · obtain rfl : k = d.wr.length := by omega
      have hb := hR.out.blk
      have hf1 : wr.frozen? ⟨m, 1, none⟩ = false := hb.frozen 1
      have hc1' : wr.cell? ⟨m, 1, none⟩ = some (.slice B d.wr.length cw) := hb.cell 1
      have hf2 : wr.frozen? ⟨m, 2, none⟩ = false := hb.frozen 2
      have hc2' := hb.cell 2
      have hf3 : wr.frozen? ⟨m, 3, none⟩ = false := hb.frozen 3
      have hc3' := hb.cell 3
      clear hb hc1
      go_wp2
      go_end0
      have hR' := hR.out
      rw [List.take_length] at hR'
      have hok := Dk.crash_ok H.out.ok keep
      have hbl := ((hR'.blk.put 1 (.slice none 0 0)).put 2 (.int .i64 (-1))).put 3 (.bool false)
      have c4 := (((Chg.refl (· = m) wr).setCell (p := ⟨m, 1, none⟩) (.inl rfl) (.slice none 0 0)).setCell (p := ⟨m, 2, none⟩) (.inl rfl) (.int .i64 (-1))).setCell (p := ⟨m, 3, none⟩) (.inl rfl) (.bool false)
      refine ⟨rfl, .slice (some ⟨gd, 0, none⟩) d.dur.length cd, .slice none 0 0, ⟨hbl, H.out.low, ?_, World.ownsRow_nil _ _ _ _, hok⟩, ?_, ?_⟩
      · rw [show (Dk.crash d keep).dur = Dk.tornFrom keep 0 d.dur d.wr from rfl, Dk.length_tornFrom]
        exact c4.own hR'.dur (fun k hk e => own_ne_blk hR'.dur hR'.blk (by decide) k hk e)
      · exact ((hR'.chg.mono (fp' := fpM m (.slice (some ⟨gd, 0, none⟩) d.dur.length cd) (.slice B d.wr.length cw)) (fun i _ hi => .inr (.inl (by rw [← hi]; rfl))))).trans c4 (fun i hi => .inl (.inl hi))
      · rintro q (hq | hq | hq)
        · exact .inl (.inl hq)
        · exact .inl (.inr (.inl hq))
        · cases hq

end Go.Proofs.Ytdnjelggdjimhaa
