/-
  CustodyDisk: the walk.
-/
import Derived.Test.YtdnjelggdjimhaaSp5
import Derived.Deep.DeepCutAuto
namespace Go.Proofs.Ytdnjelggdjimhaa
open Go.RowKit

namespace Dk
def stepsD (d : D) (ops : List RawOp) : D := ops.foldl (fun d o => stepD d o.kd o.s o.data o.n o.keep) d
theorem stepsD_take (d : D) (ops : List RawOp) (k : Nat) (o : RawOp) (h : ops[k]? = some o) : stepsD d (ops.take (k + 1)) = stepD (stepsD d (ops.take k)) o.kd o.s o.data o.n o.keep := by
  rw [List.take_add_one, h]; simp [stepsD]
theorem stepsD_wr (d : D) (ops : List RawOp) : (stepsD d ops).wr.length ≤ d.wr.length + ops.length := by
  induction ops generalizing d with
  | nil => simp [stepsD]
  | cons o r ih =>
    have h1 := ih (stepD d o.kd o.s o.data o.n o.keep)
    have h2 := stepD_wr d o.kd o.s o.data o.n o.keep
    simp only [stepsD, List.foldl_cons, List.length_cons] at h1 ⊢
    omega
end Dk

def OpThere (w : World) (x : Addr) (o : RawOp) : Prop := ∀ j v, o.cells[j]? = some v → w.cell? (x.add j) = some v

set_option maxRecDepth 100000 in
set_option maxHeartbeats 2000000 in
theorem disk_law_big (sectors : Int) (A : Option Addr) (n c : Nat) (ops : List RawOp) (w : World) (h : ScriptAt w A n ops) (hsm : (decide (n ≤ 200) && ops.all RawOp.small) = false) :
    Calls Try.prog 4 #[.int .i64 sectors, .slice A n c] w fun e w' => e = .returned (.bool true) ∧ Below w.heap.size w w' := by
  go_enter Try.func4, Try.ntmps4
  go_wp2_with fail
  refine (small_calls A n c ops w h).mono ?_
  rw [hsm]
  rintro e w1 ⟨rfl, rfl⟩
  go_wp2_with fail
  refine (disks_calls w).mono ?_
  rintro e w' ⟨rfl, hB⟩
  go_wp2
  go_ret
  exact ⟨rfl, hB⟩

set_option maxRecDepth 100000 in
set_option maxHeartbeats 2000000 in
theorem disk_law_small (sectors : Int) (A : Option Addr) (n c : Nat) (ops : List RawOp) (w : World) (h : ScriptAt w A n ops) (hsm : (decide (n ≤ 200) && ops.all RawOp.small) = true) :
    Calls Try.prog 4 #[.int .i64 sectors, .slice A n c] w fun e w' => e = .returned (.bool true) ∧ Below w.heap.size w w' := by
  have HSM := Lib.hid hsm
  have H := Lib.hid h
  clear h hsm
  go_enter Try.func4, Try.ntmps4
  go_wp2_with fail
  refine (small_calls A n c ops w H.out).mono ?_
  rw [HSM.out]
  rintro e w1 ⟨rfl, rfl⟩
  go_upto_region 3 with fail
  go_cut [21] (fun s21 wx => s21 = .bool (decide (sectors < 16) || decide (65536 < sectors)) ∧ wx = w)
  case first =>
    by_cases h1 : sectors < 16
    · have hd : decide (sectors < 16) = true := by simpa using h1
      go_wp2
      go_meet
      exact ⟨by rw [hd]; rfl, rfl⟩
    · have hd : decide (sectors < 16) = false := by simpa using h1
      go_wp2
      go_meet
      exact ⟨by rw [hd]; rfl, rfl⟩
  case rest =>
    obtain ⟨rfl, rfl⟩ := hcut
    apply_assumption
    go_cut [] (fun wx => wx = wc)
    case first =>
      by_cases h1 : sectors < 16 ∨ 65536 < sectors
      · have hd : (decide (sectors < 16) || decide (65536 < sectors)) = true := by simpa using h1
        rw [hd]
        go_wp2_with fail
        refine (new_no sectors wc h1).mono ?_
        rintro e w1 ⟨rfl, rfl⟩
        go_wp2
        go_meet
        rfl
      · have hd : (decide (sectors < 16) || decide (65536 < sectors)) = false := by simpa using h1
        rw [hd]
        go_wp2
        go_meet
        rfl
    case rest =>
    obtain rfl := hcut
    go_wp2_with fail
    refine (disk_calls sectors wc).mono ?_
    rintro e w1 ⟨nn, g, m, rfl, hn1, hn2, hBo, hBe⟩
    have HB := Lib.hid (And.intro hBo hBe)
    have HN := Lib.hid (And.intro hn1 hn2)
    clear hBo hBe hn1 hn2
    go_wp2_with fail
    go_loopg [10] n (fun q i wr => ∃ k : Nat, k ≤ n ∧ q + k = n ∧ i = .int .i64 k ∧ Hid (Both wr wc.heap.size g m (Dk.stepsD (Dk.new nn) (ops.take k)) ∧ Below wc.heap.size wc wr))
    case atStart => exact ⟨0, Nat.zero_le _, rfl, rfl, HB⟩
    case round =>
      obtain ⟨k, hk, hgk, rfl, hR⟩ := hrel
      by_cases hlt : k < n
      · obtain ⟨o, ho⟩ : ∃ o, ops[k]? = some o := ⟨_, List.getElem?_eq_getElem (by have := H.out.len; omega)⟩
        obtain ⟨ad, rfl, hc⟩ := H.out.at_.resolve_left (fun e => by rw [e] at ho; cases ho)
        have hok := H.out.ok o (List.mem_of_getElem? ho)
        have hosm : o.small = true := by
          have := (Bool.and_eq_true _ _ ▸ HSM.out).2
          exact List.all_eq_true.1 this o (List.mem_of_getElem? ho)
        have hop : OpAt wc (.agg o.cells.toArray) o.kd o.s o.data o.n o.keep := by
          refine ⟨⟨o.A, o.a, o.c, o.B, o.b, o.e, rfl, hok.data, hok.keep⟩, hok.kd, hok.n, ?_⟩
          have h1 := hok.data.len
          unfold RawOp.small at hosm
          simp at hosm
          omega
        have hblk : ∀ j, j < 5 → ((ad.add (k * 5)).add j).block < wc.heap.size := fun j hj => by
          obtain ⟨v, hv⟩ : ∃ v, o.cells[j]? = some v := ⟨_, List.getElem?_eq_getElem (by simpa [RawOp.cells] using hj)⟩
          exact World.block_lt_of_cell? _ _ (hc k o ho j v hv)
        have hth : OpThere wr (ad.add (k * 5)) o := fun j v hv => by
          have hj : j < 5 := by simpa [RawOp.cells] using (List.getElem?_eq_some_iff.1 hv).1
          rw [hR.out.2.cell (hblk j hj)]
          exact hc k o ho j v hv
        have hwr : (Dk.stepsD (Dk.new nn) (ops.take k)).wr.length ≤ 1000 := by
          have h1 := Dk.stepsD_wr (Dk.new nn) (ops.take k)
          have h2 : (ops.take k).length ≤ 200 := by
            have := (Bool.and_eq_true _ _ ▸ HSM.out).1
            simp at this
            rw [List.length_take]; omega
          have h3 : (Dk.new nn).wr.length = 0 := rfl
          omega
        have HO := Lib.hid ho
        have HOP := Lib.hid hop
        have HGK := Lib.hid hgk
        have HWR := Lib.hid hwr
        have HBL := Lib.hid hblk
        clear ho hc hok hosm hop hgk hwr hblk
        go_wp2_with fail
        refine wp_region_R (RL [(5, fun w' => OpThere w' (ad.add (k * 5)) o)]) (by kernel_rfl) (RL_cons hth (RL_nil _)) (fun hp => ?_)
        have HTH := Lib.hid hth
        clear hth
        refine wpAnyR_take (i := 0) (oi := ⟨some 47, _, _, _, _, _⟩) (v := ?_) rfl (by kernel_rfl) (by kernel_rfl) (by kernel_rfl) (fun _ _ _ h => h) hp (.inl ⟨by rfl, fun w _ => ?_⟩) (fun hq => ?_)
        rotate_left
        · go_simp
          with_reducible rfl
        clear hp; have hp := hq; clear hq
        try simp only [Act.put, List.setIfInBounds_toArray, List.set_cons_zero, List.set_cons_succ]
        refine wpAnyR_take (i := 1) (oi := ⟨some 48, _, _, _, _, _⟩) (v := ?_) rfl (by kernel_rfl) (by kernel_rfl) (by kernel_rfl) (fun _ _ _ h => h) hp (.inl ⟨by rfl, fun w _ => ?_⟩) (fun hq => ?_)
        rotate_left
        · go_simp
          with_reducible rfl
        clear hp; have hp := hq; clear hq
        try simp only [Act.put, List.setIfInBounds_toArray, List.set_cons_zero, List.set_cons_succ]
        refine wpAnyR_take (i := 2) (oi := ⟨some 49, _, _, _, _, _⟩) (v := ?_) rfl (by kernel_rfl) (by kernel_rfl) (by kernel_rfl) (fun _ _ _ h => h) hp (.inl ⟨by rfl, fun w _ => ?_⟩) (fun hq => ?_)
        rotate_left
        · go_simp
          with_reducible rfl
        clear hp; have hp := hq; clear hq
        try simp only [Act.put, List.setIfInBounds_toArray, List.set_cons_zero, List.set_cons_succ]
        refine wpAnyR_take (i := 3) (oi := ⟨some 50, _, _, _, _, _⟩) (v := ?_) rfl (by kernel_rfl) (by kernel_rfl) (by kernel_rfl) (fun _ _ _ h => h) hp (.inl ⟨by rfl, fun w _ => ?_⟩) (fun hq => ?_)
        rotate_left
        · go_simp
          with_reducible rfl
        clear hp; have hp := hq; clear hq
        try simp only [Act.put, List.setIfInBounds_toArray, List.set_cons_zero, List.set_cons_succ]
        refine wpAnyR_take (i := 4) (oi := ⟨some 51, _, _, _, _, _⟩) (v := ?_) rfl (by kernel_rfl) (by kernel_rfl) (by kernel_rfl) (fun _ _ _ h => h) hp (.inl ⟨by rfl, fun w _ => ?_⟩) (fun hq => ?_)
        rotate_left
        · go_simp
          with_reducible rfl
        clear hp; have hp := hq; clear hq
        try simp only [Act.put, List.setIfInBounds_toArray, List.set_cons_zero, List.set_cons_succ]
        refine wpAnyR_take (i := 5) (oi := ⟨some 52, _, _, _, _, _⟩) (v := ?_) rfl (by kernel_rfl) (by kernel_rfl) (by kernel_rfl) (fun _ _ _ h => h) hp (.inl ⟨by rfl, fun w hR => ?_⟩) (fun hq => ?_)
        rotate_left
        · have hR := hR.1 rfl
          (try dsimp only at hR)
          have h0 : w.cell? (ad.add (k * 5)) = some (.int .u8 (o.kd : Int)) := hR 0 _ rfl
          have h1 : w.cell? ⟨(ad.add (k * 5)).block, (ad.add (k * 5)).off + 1, none⟩ = some (.int .i64 o.s) := hR 1 _ rfl
          have h2 : w.cell? ⟨(ad.add (k * 5)).block, (ad.add (k * 5)).off + 2, none⟩ = some (.slice o.A o.a o.c) := hR 2 _ rfl
          have h3 : w.cell? ⟨(ad.add (k * 5)).block, (ad.add (k * 5)).off + 3, none⟩ = some (.int .i64 o.n) := hR 3 _ rfl
          have h4 : w.cell? ⟨(ad.add (k * 5)).block, (ad.add (k * 5)).off + 4, none⟩ = some (.slice o.B o.b o.e) := hR 4 _ rfl
          clear hR
          go_simp
          with_reducible rfl
        clear hp; have hp := hq; clear hq
        try simp only [Act.put, List.setIfInBounds_toArray, List.set_cons_zero, List.set_cons_succ]
        refine wpAnyR_step (i := 6) (o := ⟨some 53, _, _, _, _, _⟩) (by kernel_rfl) rfl (by rfl) (fun K hK => ?_) -- Op.call { callee := Callee.value (Operand.func 17), args := #[Operand.tmp 47, Operand.tmp 48, Operand.tmp 52],
        go_simp
        refine (step_any _ o.kd o.s o.data o.n o.keep (hR.out.1.new_ (Chg.refl _ wr).drew) HOP.out hR.out.2.drew rfl HWR.out).mono ?_
        rintro e1 w2 ⟨rfl, hBo, hBe⟩
        show K _ _
        have hS5 : OpThere w2 (ad.add (k * 5)) o := fun j v hv => by
          have hj : j < 5 := by simpa [RawOp.cells] using (List.getElem?_eq_some_iff.1 hv).1
          rw [(hR.out.2.drew.trans hBe).cell (HBL.out j hj), ← hR.out.2.cell (HBL.out j hj)]
          exact HTH.out j v hv
        have HBO := Lib.hid (And.intro hBo (hR.out.2.drew.trans hBe))
        obtain ⟨_, vd, vn, vw, vd2, vp, hD, hM⟩ := hBo
        have hg3 : w2.cell? ⟨g, 3, none⟩ = some (.bool (Dk.stepD (Dk.stepsD (Dk.new nn) (ops.take k)) o.kd o.s o.data o.n o.keep).down) := hD.blk.cell 3
        have hm3 : w2.cell? ⟨m, 3, none⟩ = some (.bool (Dk.stepD (Dk.stepsD (Dk.new nn) (ops.take k)) o.kd o.s o.data o.n o.keep).down) := hM.blk.cell 3
        refine hK _ _ (pend_off (by kernel_rfl) pend_nil) (fun hq => ?_)
        clear hp hK K; have hp := hq; clear hq
        try simp only [Act.put, List.setIfInBounds_toArray, List.set_cons_zero, List.set_cons_succ]
        refine wpAnyR_take (i := 7) (oi := ⟨some 54, _, _, _, _, _⟩) (v := ?_) rfl (by kernel_rfl) (by kernel_rfl) (by kernel_rfl) (fun _ _ _ h => h) hp (.inl ⟨by rfl, fun w _ => ?_⟩) (fun hq => ?_)
        rotate_left
        · go_simp
          with_reducible rfl
        clear hp; have hp := hq; clear hq
        try simp only [Act.put, List.setIfInBounds_toArray, List.set_cons_zero, List.set_cons_succ]
        refine wpAnyR_take (i := 8) (oi := ⟨some 55, _, _, _, _, _⟩) (v := ?_) rfl (by kernel_rfl) (by kernel_rfl) (by kernel_rfl) (fun _ _ _ h => h) hp (.inl ⟨by rfl, fun w _ => ?_⟩) (fun hq => ?_)
        rotate_left
        · go_simp
          with_reducible rfl
        clear hp; have hp := hq; clear hq
        try simp only [Act.put, List.setIfInBounds_toArray, List.set_cons_zero, List.set_cons_succ]
        refine wpAnyR_take (i := 9) (oi := ⟨some 56, _, _, _, _, _⟩) (v := ?_) rfl (by kernel_rfl) (by kernel_rfl) (by kernel_rfl) (fun _ _ _ h => h) hp (.inl ⟨by rfl, fun w _ => ?_⟩) (fun hq => ?_)
        rotate_left
        · go_simp
          with_reducible rfl
        clear hp; have hp := hq; clear hq
        try simp only [Act.put, List.setIfInBounds_toArray, List.set_cons_zero, List.set_cons_succ]
        refine wpAnyR_take (i := 11) (oi := ⟨some 58, _, _, _, _, _⟩) (v := ?_) rfl (by kernel_rfl) (by kernel_rfl) (by kernel_rfl) (fun _ _ _ h => h) hp (.inl ⟨by rfl, fun w _ => ?_⟩) (fun hq => ?_)
        rotate_left
        · go_simp
          with_reducible rfl
        clear hp; have hp := hq; clear hq
        try simp only [Act.put, List.setIfInBounds_toArray, List.set_cons_zero, List.set_cons_succ]
        refine wpAnyR_take (i := 12) (oi := ⟨some 59, _, _, _, _, _⟩) (v := ?_) rfl (by kernel_rfl) (by kernel_rfl) (by kernel_rfl) (fun _ _ _ h => h) hp (.inl ⟨by rfl, fun w _ => ?_⟩) (fun hq => ?_)
        rotate_left
        · go_simp
          with_reducible rfl
        clear hp; have hp := hq; clear hq
        try simp only [Act.put, List.setIfInBounds_toArray, List.set_cons_zero, List.set_cons_succ]
        refine wpAnyR_take (i := 13) (oi := ⟨some 60, _, _, _, _, _⟩) (v := ?_) rfl (by kernel_rfl) (by kernel_rfl) (by kernel_rfl) (fun _ _ _ h => h) hp (.inl ⟨by rfl, fun w _ => ?_⟩) (fun hq => ?_)
        rotate_left
        · go_simp
          with_reducible rfl
        clear hp; have hp := hq; clear hq
        try simp only [Act.put, List.setIfInBounds_toArray, List.set_cons_zero, List.set_cons_succ]
        refine wpAnyR_two (i := 10) (j := 14) (by kernel_rfl) ?_ ?_
        refine stepR (i := 10) (o := ⟨some 57, _, _, _, _, _⟩) rfl (by rfl) (fun K hK => ?_) -- Op.call { callee := Callee.value (Operand.func 14), args := #[Operand.tmp 56], argTypes := #[25] }
        go_simp
        refine (down_calls g _ _ hg3).mono ?_
        rintro e1 w3 ⟨rfl, rfl⟩
        show K _ _
        refine hK _ _ (pend_off (by kernel_rfl) pend_nil) (fun hq => ?_)
        clear hp hK K; have hp := hq; clear hq
        try simp only [Act.put, List.setIfInBounds_toArray, List.set_cons_zero, List.set_cons_succ]
        refine wpAnyR_step (i := 14) (o := ⟨some 61, _, _, _, _, _⟩) (by kernel_rfl) rfl (by rfl) (fun K hK => ?_) -- Op.load 4 (Operand.tmp 60)
        go_simp
        refine hK _ _ (pend_off (by kernel_rfl) pend_nil) (fun hq => ?_)
        clear hp hK K; have hp := hq; clear hq
        try simp only [Act.put, List.setIfInBounds_toArray, List.set_cons_zero, List.set_cons_succ]
        refine wpAnyR_take (i := 15) (oi := ⟨some 62, _, _, _, _, _⟩) (v := ?_) rfl (by kernel_rfl) (by kernel_rfl) (by kernel_rfl) (fun _ _ _ h => h) hp (.inl ⟨by rfl, fun w _ => ?_⟩) (fun hq => ?_)
        rotate_left
        · go_simp
          with_reducible rfl
        clear hp; have hp := hq; clear hq
        try simp only [Act.put, List.setIfInBounds_toArray, List.set_cons_zero, List.set_cons_succ]
        refine wpAnyR_take (i := 16) (oi := ⟨some 63, _, _, _, _, _⟩) (v := ?_) rfl (by kernel_rfl) (by kernel_rfl) (by kernel_rfl) (fun _ _ _ h => h) hp (.inl ⟨by rfl, fun w _ => ?_⟩) (fun hq => ?_)
        rotate_left
        · go_simp
          with_reducible rfl
        clear hp; have hp := hq; clear hq
        try simp only [Act.put, List.setIfInBounds_toArray, List.set_cons_zero, List.set_cons_succ]
        refine wpAnyR_done (by kernel_rfl) ?_ _
        clear hp
        rotate_left
        refine stepR (i := 14) (o := ⟨some 61, _, _, _, _, _⟩) rfl (by rfl) (fun K hK => ?_) -- Op.load 4 (Operand.tmp 60)
        go_simp
        refine hK _ _ (pend_off (by kernel_rfl) pend_nil) (fun hq => ?_)
        clear hp hK K; have hp := hq; clear hq
        try simp only [Act.put, List.setIfInBounds_toArray, List.set_cons_zero, List.set_cons_succ]
        refine wpAnyR_step (i := 10) (o := ⟨some 57, _, _, _, _, _⟩) (by kernel_rfl) rfl (by rfl) (fun K hK => ?_) -- Op.call { callee := Callee.value (Operand.func 14), args := #[Operand.tmp 56], argTypes := #[25] }
        go_simp
        refine (down_calls g _ _ hg3).mono ?_
        rintro e1 w3 ⟨rfl, rfl⟩
        show K _ _
        refine hK _ _ (pend_off (by kernel_rfl) pend_nil) (fun hq => ?_)
        clear hp hK K; have hp := hq; clear hq
        try simp only [Act.put, List.setIfInBounds_toArray, List.set_cons_zero, List.set_cons_succ]
        refine wpAnyR_take (i := 15) (oi := ⟨some 62, _, _, _, _, _⟩) (v := ?_) rfl (by kernel_rfl) (by kernel_rfl) (by kernel_rfl) (fun _ _ _ h => h) hp (.inl ⟨by rfl, fun w _ => ?_⟩) (fun hq => ?_)
        rotate_left
        · go_simp
          with_reducible rfl
        clear hp; have hp := hq; clear hq
        try simp only [Act.put, List.setIfInBounds_toArray, List.set_cons_zero, List.set_cons_succ]
        refine wpAnyR_take (i := 16) (oi := ⟨some 63, _, _, _, _, _⟩) (v := ?_) rfl (by kernel_rfl) (by kernel_rfl) (by kernel_rfl) (fun _ _ _ h => h) hp (.inl ⟨by rfl, fun w _ => ?_⟩) (fun hq => ?_)
        rotate_left
        · go_simp
          with_reducible rfl
        clear hp; have hp := hq; clear hq
        try simp only [Act.put, List.setIfInBounds_toArray, List.set_cons_zero, List.set_cons_succ]
        refine wpAnyR_done (by kernel_rfl) ?_ _
        clear hp
        all_goals
          clear hS5 hD hM hBe
          have hn200 : n ≤ 200 := by
            have := (Bool.and_eq_true _ _ ▸ HSM.out).1
            simpa using this
          have hk200 : k + 1 ≤ 9223372036854775807 := by omega
          clear hn200
          go_wp2
          have hgk' := HGK.out
          go_roundg (gk - 1)
          case measure => omega
          case rel => exact ⟨k + 1, by omega, by omega, by go_num, Lib.hid (by rw [Dk.stepsD_take _ _ _ _ HO.out]; exact HBO.out)⟩
      · obtain rfl : k = n := by omega
        obtain ⟨d, hd⟩ : ∃ d, d = Dk.stepsD (Dk.new nn) (ops.take k) := ⟨_, rfl⟩
        rw [← hd] at hR
        clear hd
        go_wp2_with fail
        go_loopg [11] d.dur.length (fun q i wx => ∃ j : Nat, j ≤ d.dur.length ∧ q + j = d.dur.length ∧ i = .int .i64 j ∧ Hid (Both wx wc.heap.size g m d ∧ Below wc.heap.size wc wx))
        case atStart => exact ⟨0, Nat.zero_le _, rfl, rfl, hR⟩
        case round =>
          obtain ⟨j, hj, hgj, rfl, hX⟩ := hrel
          obtain ⟨vd, vn, vw, vd2, vp, hD, hM⟩ := hX.out.1.2
          obtain ⟨A2, c2, rfl, hlc, hcm⟩ := own_shape hM.dur
          have hmax : d.dur.length ≤ 9223372036854775807 := by simp only [maxLen] at hcm; omega
          have hm0 : wr.cell? ⟨m, 0, none⟩ = some (.slice A2 d.dur.length c2) := hM.blk.cell 0
          have HGJ := Lib.hid hgj
          clear hD hM hgj
          by_cases hlj : j < d.dur.length
          · go_wp2_with fail
            refine (step_read 0 (j : Int) none none 0 0 0 0 0 hX.out.1 rfl).mono ?_
            rintro e1 w2 ⟨rfl, hBo, hBe⟩
            have HB2 := Lib.hid (And.intro hBo (hX.out.2.trans hBe))
            clear hBo hBe
            go_wp2
            have hgj' := HGJ.out
            go_roundg (gk - 1)
            case measure => omega
            case rel => exact ⟨j + 1, by omega, by omega, by go_num, HB2⟩
          · obtain rfl : j = d.dur.length := by omega
            go_wp2_with fail
            refine (disks_calls _).mono ?_
            rintro e w' ⟨rfl, hB⟩
            have HB3 := Lib.hid hB
            clear hB
            go_wp2
            go_ret
            exact ⟨rfl, hX.out.2.trans (HB3.out.mono hX.out.2.size)⟩

/-- CustodyDisk, whatever the script. -/
theorem disk_law (sectors : Int) (A : Option Addr) (n c : Nat) (ops : List RawOp) (w : World) (h : ScriptAt w A n ops) :
    Calls Try.prog 4 #[.int .i64 sectors, .slice A n c] w fun e w' => e = .returned (.bool true) ∧ Below w.heap.size w w' := by
  cases hsm : (decide (n ≤ 200) && ops.all RawOp.small)
  · exact disk_law_big sectors A n c ops w h hsm
  · exact disk_law_small sectors A n c ops w h hsm

end Go.Proofs.Ytdnjelggdjimhaa
