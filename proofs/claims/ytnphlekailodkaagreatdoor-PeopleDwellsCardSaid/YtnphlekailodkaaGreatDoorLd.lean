/-
  Places, Lives, Dwellers, Pairs, Home and Heir return what the reference returns: the law's walk.
-/
import Derived.Test.YtnphlekailodkaaGreatDoorDw2
namespace Go.Proofs.YtnphlekailodkaaGreatDoor
open Go.RowKit

set_option maxRecDepth 1000000 in
set_option maxHeartbeats 16000000 in
theorem dwells_law (A : Option Addr) (n c : Nat) (l : List Pe.Ent) (cd : Pe.Pair) (d : Int) (w : World) (h : EntsAt w A n l) (hL : Laid w) :
    Calls Tryz.prog 6 #[.slice A n c, .agg (pCells cd), .int .i64 d] w (Law w) := by
  have H := Lib.hid (And.intro h hL)
  have hln := h.len
  clear h hL
  have hfe := fun w0 => Few_calls A n c w0
  have HFE := Lib.hid hfe
  clear hfe
  go_enter Tryz.func6, Tryz.ntmps6
  unfold pCells
  go_upto_region 1 with fail
  obtain ⟨b, hb⟩ : ∃ b, b = w.heap.size := ⟨_, rfl⟩
  obtain ⟨w1, hw1⟩ : ∃ w1, w1 = w.alloc (.cells (pCells cd) 28) := ⟨_, rfl⟩
  have hb1 : Below w.heap.size w w1 := by rw [hw1]; exact (Below.refl _ w).alloc (Nat.le_refl _) _
  have hc1 : Blk w1 b 28 (pCells cd) := by rw [hw1, hb]; exact Blk.fresh _ _ _
  unfold pCells at hw1
  rw [← hb, ← hw1]
  have H1 := Lib.hid (And.intro hb1 hc1)
  have HLN := Lib.hid hln
  clear hb1 hc1 hw1 hb hln
  by_cases hfew : n ≤ 60
  case neg =>
    have d1 : decide (n ≤ 60) = false := by simpa using hfew
    have HD := Lib.hid d1
    clear d1 hfew
    go_wp2_with fail
    refine (HFE.out w1).mono ?_
    rintro e w2 ⟨rfl, rfl⟩
    rw [HD.out]
    dsimp only
    go_wp2_with fail
    refine (alive_calls w2 (H.out.2.below H1.out.1)).mono ?_
    rintro e wy ⟨rfl, hby⟩
    have HY := Lib.hid (H1.out.1.trans (hby.mono H1.out.1.size))
    clear hby
    dsimp only
    go_wp2
    go_ret
    exact ⟨rfl, HY.out⟩
  have d1 : decide (n ≤ 60) = true := by simpa using hfew
  have HD := Lib.hid d1
  have hn : n ≤ 100000 := by omega
  clear d1
  have hps := Pe.pairs_length l d
  obtain ⟨pl, hpl⟩ : ∃ pl, pl = Pe.places l cd.1 d := ⟨_, rfl⟩
  obtain ⟨dl, hdl⟩ : ∃ dl, dl = Pe.dwellers l cd.2 d := ⟨_, rfl⟩
  obtain ⟨ps, hpp⟩ : ∃ ps, ps = Pe.pairs l d := ⟨_, rfl⟩
  have hpl6 : pl.length ≤ 1000000 := by
    have h2 := HLN.out
    rw [hpl]
    unfold Pe.places
    rw [List.length_map]
    exact Nat.le_trans (List.length_filter_le _ _) (by omega)
  have hdl6 : dl.length ≤ 1000000 := by
    have h2 := HLN.out
    rw [hdl]
    unfold Pe.dwellers
    rw [List.length_map]
    exact Nat.le_trans (List.length_filter_le _ _) (by omega)
  have hps6 : ps.length ≤ 1000000 := by have h2 := HLN.out; rw [hpp]; omega
  have f1 := fun w0 (hb : Below w.heap.size w w0) => Places_calls A n c l cd.1 d w0 (H.out.1.below hb) hn
  have f2 := fun w0 (hb : Below w.heap.size w w0) => rPlaces_calls A n c l cd.1 d w0 (H.out.1.below hb) hn
  have f3 := fun w0 (hb : Below w.heap.size w w0) => Lives_calls A n c l cd d w0 (H.out.1.below hb) hn
  have f4 := fun w0 (hb : Below w.heap.size w w0) => rLives_calls A n c l cd d w0 (H.out.1.below hb) hn
  have f5 := fun w0 (hb : Below w.heap.size w w0) => Dwellers_calls A n c l cd.2 d w0 (H.out.1.below hb) hn
  have f6 := fun w0 (hb : Below w.heap.size w w0) => rDwellers_calls A n c l cd.2 d w0 (H.out.1.below hb) hn
  have f7 := fun w0 (hb : Below w.heap.size w w0) => Pairs_calls A n c l d w0 (H.out.1.below hb) hn
  have f8 := fun w0 (hb : Below w.heap.size w w0) => rPairs_calls A n c l d w0 (H.out.1.below hb) hn
  have g1 := fun w0 (hb : Below w.heap.size w w0) => Home_calls A n c l cd.1 d w0 (H.out.1.below hb)
  have g2 := fun w0 (hb : Below w.heap.size w w0) => rHome_calls A n c l cd.1 d w0 (H.out.1.below hb)
  have g3 := fun w0 (hb : Below w.heap.size w w0) => Heir_calls A n c l cd.1 d w0 (H.out.1.below hb)
  have g4 := fun w0 (hb : Below w.heap.size w w0) => rHeir_calls A n c l cd.1 d w0 (H.out.1.below hb)
  rw [← Pe.places_eq, ← hpl] at f2
  rw [← hpl] at f1
  rw [← Pe.dwellers_eq, ← hdl] at f6
  rw [← hdl] at f5
  rw [← Pe.pairs_eq, ← hpp] at f8
  rw [← hpp] at f7
  obtain ⟨LV, hLV⟩ : ∃ LV, LV = Pe.lives l cd d := ⟨_, rfl⟩
  rw [← hLV] at f3 f4
  obtain ⟨ho, hho⟩ : ∃ ho, ho = (Pe.home? l cd.1 d).getD 0 := ⟨_, rfl⟩
  obtain ⟨hi, hhi⟩ : ∃ hi, hi = (Pe.home? l cd.1 d).isSome := ⟨_, rfl⟩
  obtain ⟨ro, hro⟩ : ∃ ro, ro = (Pe.heir? l cd.1 d).getD 0 := ⟨_, rfl⟩
  obtain ⟨ri, hri⟩ : ∃ ri, ri = (Pe.heir? l cd.1 d).isSome := ⟨_, rfl⟩
  rw [← hho, ← hhi] at g1 g2
  rw [← hro, ← hri] at g3 g4
  unfold pCells at f3 f4
  have F := Lib.hid (And.intro f1 (And.intro f2 (And.intro f3 (And.intro f4 (And.intro f5 (And.intro f6 (And.intro f7 f8)))))))
  have G := Lib.hid (And.intro g1 (And.intro g2 (And.intro g3 g4)))
  have HLEN := Lib.hid (And.intro hpl6 (And.intro hdl6 hps6))
  clear f1 f2 f3 f4 f5 f6 f7 f8 g1 g2 g3 g4 hLV hho hhi hro hri hpl hdl hpp hps hpl6 hdl6 hps6
  go_wp2_with fail
  refine (HFE.out w1).mono ?_
  rintro e w2 ⟨rfl, rfl⟩
  rw [HD.out]
  dsimp only
  go_upto_region 3 with fail
  have X0 := Lib.hid (And.intro H1.out.1.drew H1.out.2.drew)
  go_cut [41] from 19 (fun s41 wx => s41 = .bool false ∧ Hid (Below w.heap.size w wx ∧ Blk wx b 28 (pCells cd)))
  case first =>
    refine wp_region_R (RL [(2, fun w' => Blk w' b 28 (pCells cd)), (7, fun w' => Blk w' b 28 (pCells cd)), (14, fun w' => Blk w' b 28 (pCells cd)), (18, fun w' => Blk w' b 28 (pCells cd))]) (by kernel_rfl) (RL_cons X0.out.2 (RL_cons X0.out.2 (RL_cons X0.out.2 (RL_cons X0.out.2 (RL_nil _))))) (fun hp => ?_)
    refine wpAnyR_take (i := 0) (oi := ⟨some 19, _, _, _, _, _⟩) (v := ?_) rfl (by kernel_rfl) (by kernel_rfl) (by kernel_rfl) (fun _ _ _ h => h) hp (.inl ⟨by rfl, fun w _ => ?_⟩) (fun hq => ?_)
    rotate_left
    · go_simp
      with_reducible rfl
    clear hp; have hp := hq; clear hq
    try simp only [Act.put, List.setIfInBounds_toArray, List.set_cons_zero, List.set_cons_succ]
    refine wpAnyR_take (i := 1) (oi := ⟨some 20, _, _, _, _, _⟩) (v := ?_) rfl (by kernel_rfl) (by kernel_rfl) (by kernel_rfl) (fun _ _ _ h => h) hp (.inl ⟨by rfl, fun w _ => ?_⟩) (fun hq => ?_)
    rotate_left
    · go_simp
      with_reducible rfl
    clear hp; have hp := hq; clear hq
    try simp only [Act.put, List.setIfInBounds_toArray, List.set_cons_zero, List.set_cons_succ]
    refine wpAnyR_take (i := 2) (oi := ⟨some 21, _, _, _, _, _⟩) (v := ?_) rfl (by kernel_rfl) (by kernel_rfl) (by kernel_rfl) (fun _ _ _ h => h) hp (.inl ⟨by rfl, fun w hR => ?_⟩) (fun hq => ?_)
    rotate_left
    · have hR := hR.1 rfl
      (try dsimp only at hR)
      have k0 : w.cell? ⟨b, 0, none⟩ = some (.int .i64 cd.1) := hR.cell 0
      have k1 : w.cell? ⟨b, 1, none⟩ = some (.int .i64 cd.2) := hR.cell 1
      clear hR
      go_simp
      with_reducible rfl
    clear hp; have hp := hq; clear hq
    try simp only [Act.put, List.setIfInBounds_toArray, List.set_cons_zero, List.set_cons_succ]
    refine wpAnyR_take (i := 3) (oi := ⟨some 22, _, _, _, _, _⟩) (v := ?_) rfl (by kernel_rfl) (by kernel_rfl) (by kernel_rfl) (fun _ _ _ h => h) hp (.inl ⟨by rfl, fun w _ => ?_⟩) (fun hq => ?_)
    rotate_left
    · go_simp
      with_reducible rfl
    clear hp; have hp := hq; clear hq
    try simp only [Act.put, List.setIfInBounds_toArray, List.set_cons_zero, List.set_cons_succ]
    refine wpAnyR_take (i := 5) (oi := ⟨some 24, _, _, _, _, _⟩) (v := ?_) rfl (by kernel_rfl) (by kernel_rfl) (by kernel_rfl) (fun _ _ _ h => h) hp (.inl ⟨by rfl, fun w _ => ?_⟩) (fun hq => ?_)
    rotate_left
    · go_simp
      with_reducible rfl
    clear hp; have hp := hq; clear hq
    try simp only [Act.put, List.setIfInBounds_toArray, List.set_cons_zero, List.set_cons_succ]
    refine wpAnyR_take (i := 6) (oi := ⟨some 25, _, _, _, _, _⟩) (v := ?_) rfl (by kernel_rfl) (by kernel_rfl) (by kernel_rfl) (fun _ _ _ h => h) hp (.inl ⟨by rfl, fun w _ => ?_⟩) (fun hq => ?_)
    rotate_left
    · go_simp
      with_reducible rfl
    clear hp; have hp := hq; clear hq
    try simp only [Act.put, List.setIfInBounds_toArray, List.set_cons_zero, List.set_cons_succ]
    refine wpAnyR_take (i := 7) (oi := ⟨some 26, _, _, _, _, _⟩) (v := ?_) rfl (by kernel_rfl) (by kernel_rfl) (by kernel_rfl) (fun _ _ _ h => h) hp (.inl ⟨by rfl, fun w hR => ?_⟩) (fun hq => ?_)
    rotate_left
    · have hR := hR.2.1 rfl
      (try dsimp only at hR)
      have k0 : w.cell? ⟨b, 0, none⟩ = some (.int .i64 cd.1) := hR.cell 0
      have k1 : w.cell? ⟨b, 1, none⟩ = some (.int .i64 cd.2) := hR.cell 1
      clear hR
      go_simp
      with_reducible rfl
    clear hp; have hp := hq; clear hq
    try simp only [Act.put, List.setIfInBounds_toArray, List.set_cons_zero, List.set_cons_succ]
    refine wpAnyR_take (i := 8) (oi := ⟨some 27, _, _, _, _, _⟩) (v := ?_) rfl (by kernel_rfl) (by kernel_rfl) (by kernel_rfl) (fun _ _ _ h => h) hp (.inl ⟨by rfl, fun w _ => ?_⟩) (fun hq => ?_)
    rotate_left
    · go_simp
      with_reducible rfl
    clear hp; have hp := hq; clear hq
    try simp only [Act.put, List.setIfInBounds_toArray, List.set_cons_zero, List.set_cons_succ]
    refine wpAnyR_step (i := 4) (o := ⟨some 23, _, _, _, _, _⟩) (by kernel_rfl) rfl (by rfl) (fun K hK => ?_) -- Op.call { callee := Callee.value (Operand.func 23), args := #[Operand.tmp 19, Operand.tmp 21, Operand.tmp 22],
    go_simp
    refine (F.out.1 _ X0.out.1).mono ?_
    rintro e wa ⟨va, rfl, hoa, hba⟩
    obtain ⟨A1, q1, rfl, hNa⟩ := own_nums hoa rfl
    show K _ _
    have Xa := Lib.hid (And.intro (X0.out.1.trans (hba.mono X0.out.1.size)) (X0.out.2.below hba X0.out.2.lt))
    have hS2 := Xa.out.2
    have hS7 := Xa.out.2
    have hS14 := Xa.out.2
    have hS18 := Xa.out.2
    have Na := Lib.hid hNa
    clear hba hoa hNa
    refine hK _ _ (pend_off (by kernel_rfl) (pend_on hS7 (pend_on hS14 (pend_on hS18 pend_nil)))) (fun hq => ?_)
    clear hp hK K; have hp := hq; clear hq
    try simp only [Act.put, List.setIfInBounds_toArray, List.set_cons_zero, List.set_cons_succ]
    refine wpAnyR_step (i := 9) (o := ⟨some 28, _, _, _, _, _⟩) (by kernel_rfl) rfl (by rfl) (fun K hK => ?_) -- Op.call { callee := Callee.value (Operand.func 24), args := #[Operand.tmp 24, Operand.tmp 26, Operand.tmp 27],
    go_simp
    refine (F.out.2.1 wa Xa.out.1).mono ?_
    rintro e wb ⟨vb, rfl, hob, hbb⟩
    obtain ⟨A2, q2, rfl, hNb⟩ := own_nums hob rfl
    show K _ _
    have Xb := Lib.hid (And.intro (Xa.out.1.trans (hbb.mono Xa.out.1.size)) (Xa.out.2.below hbb Xa.out.2.lt))
    have hS2 := Xb.out.2
    have hS7 := Xb.out.2
    have hS14 := Xb.out.2
    have hS18 := Xb.out.2
    have Nb := Lib.hid (And.intro (Na.out.below hbb) hNb)
    clear hbb hob hNb
    refine hK _ _ (pend_off (by kernel_rfl) (pend_off (by kernel_rfl) (pend_on hS14 (pend_on hS18 pend_nil)))) (fun hq => ?_)
    clear hp hK K; have hp := hq; clear hq
    try simp only [Act.put, List.setIfInBounds_toArray, List.set_cons_zero, List.set_cons_succ]
    refine wpAnyR_step (i := 10) (o := ⟨some 29, _, _, _, _, _⟩) (by kernel_rfl) rfl (by rfl) (fun K hK => ?_) -- Op.call { callee := Callee.value (Operand.func 22), args := #[Operand.tmp 23, Operand.tmp 28], argTypes := #[4
    go_simp
    have hs := rSameInts_calls A1 A2 pl.length q1 pl.length q2 pl pl wb Nb.out.1 Nb.out.2 HLEN.out.1
    rw [show decide (pl = pl) = true by simp] at hs
    refine hs.mono ?_
    clear hs
    rintro e wd ⟨rfl, hbd⟩
    show K _ _
    have Xd := Lib.hid (And.intro (Xb.out.1.trans (hbd.mono Xb.out.1.size)) (Xb.out.2.below hbd Xb.out.2.lt))
    have hS2 := Xd.out.2
    have hS7 := Xd.out.2
    have hS14 := Xd.out.2
    have hS18 := Xd.out.2
    clear hbd
    refine hK _ _ (pend_off (by kernel_rfl) (pend_off (by kernel_rfl) (pend_on hS14 (pend_on hS18 pend_nil)))) (fun hq => ?_)
    clear hp hK K; have hp := hq; clear hq
    try simp only [Act.put, List.setIfInBounds_toArray, List.set_cons_zero, List.set_cons_succ]
    refine wpAnyR_take (i := 11) (oi := ⟨some 30, _, _, _, _, _⟩) (v := ?_) rfl (by kernel_rfl) (by kernel_rfl) (by kernel_rfl) (fun _ _ _ h => h) hp (.inl ⟨by rfl, fun w _ => ?_⟩) (fun hq => ?_)
    rotate_left
    · go_simp
      with_reducible rfl
    clear hp; have hp := hq; clear hq
    try simp only [Act.put, List.setIfInBounds_toArray, List.set_cons_zero, List.set_cons_succ]
    refine wpAnyR_take (i := 12) (oi := ⟨some 31, _, _, _, _, _⟩) (v := ?_) rfl (by kernel_rfl) (by kernel_rfl) (by kernel_rfl) (fun _ _ _ h => h) hp (.inl ⟨by rfl, fun w _ => ?_⟩) (fun hq => ?_)
    rotate_left
    · go_simp
      with_reducible rfl
    clear hp; have hp := hq; clear hq
    try simp only [Act.put, List.setIfInBounds_toArray, List.set_cons_zero, List.set_cons_succ]
    refine wpAnyR_take (i := 13) (oi := ⟨some 32, _, _, _, _, _⟩) (v := ?_) rfl (by kernel_rfl) (by kernel_rfl) (by kernel_rfl) (fun _ _ _ h => h) hp (.inl ⟨by rfl, fun w _ => ?_⟩) (fun hq => ?_)
    rotate_left
    · go_simp
      with_reducible rfl
    clear hp; have hp := hq; clear hq
    try simp only [Act.put, List.setIfInBounds_toArray, List.set_cons_zero, List.set_cons_succ]
    refine wpAnyR_take (i := 14) (oi := ⟨some 33, _, _, _, _, _⟩) (v := ?_) rfl (by kernel_rfl) (by kernel_rfl) (by kernel_rfl) (fun _ _ _ h => h) hp (.inl ⟨by rfl, fun w hR => ?_⟩) (fun hq => ?_)
    rotate_left
    · have hR := hR.2.2.1 rfl
      (try dsimp only at hR)
      have k0 : w.cell? ⟨b, 0, none⟩ = some (.int .i64 cd.1) := hR.cell 0
      have k1 : w.cell? ⟨b, 1, none⟩ = some (.int .i64 cd.2) := hR.cell 1
      clear hR
      go_simp
      with_reducible rfl
    clear hp; have hp := hq; clear hq
    try simp only [Act.put, List.setIfInBounds_toArray, List.set_cons_zero, List.set_cons_succ]
    refine wpAnyR_take (i := 15) (oi := ⟨some 34, _, _, _, _, _⟩) (v := ?_) rfl (by kernel_rfl) (by kernel_rfl) (by kernel_rfl) (fun _ _ _ h => h) hp (.inl ⟨by rfl, fun w _ => ?_⟩) (fun hq => ?_)
    rotate_left
    · go_simp
      with_reducible rfl
    clear hp; have hp := hq; clear hq
    try simp only [Act.put, List.setIfInBounds_toArray, List.set_cons_zero, List.set_cons_succ]
    refine wpAnyR_take (i := 17) (oi := ⟨some 36, _, _, _, _, _⟩) (v := ?_) rfl (by kernel_rfl) (by kernel_rfl) (by kernel_rfl) (fun _ _ _ h => h) hp (.inl ⟨by rfl, fun w _ => ?_⟩) (fun hq => ?_)
    rotate_left
    · go_simp
      with_reducible rfl
    clear hp; have hp := hq; clear hq
    try simp only [Act.put, List.setIfInBounds_toArray, List.set_cons_zero, List.set_cons_succ]
    refine wpAnyR_take (i := 18) (oi := ⟨some 37, _, _, _, _, _⟩) (v := ?_) rfl (by kernel_rfl) (by kernel_rfl) (by kernel_rfl) (fun _ _ _ h => h) hp (.inl ⟨by rfl, fun w hR => ?_⟩) (fun hq => ?_)
    rotate_left
    · have hR := hR.2.2.2.1 rfl
      (try dsimp only at hR)
      have k0 : w.cell? ⟨b, 0, none⟩ = some (.int .i64 cd.1) := hR.cell 0
      have k1 : w.cell? ⟨b, 1, none⟩ = some (.int .i64 cd.2) := hR.cell 1
      clear hR
      go_simp
      with_reducible rfl
    clear hp; have hp := hq; clear hq
    try simp only [Act.put, List.setIfInBounds_toArray, List.set_cons_zero, List.set_cons_succ]
    refine wpAnyR_take (i := 19) (oi := ⟨some 38, _, _, _, _, _⟩) (v := ?_) rfl (by kernel_rfl) (by kernel_rfl) (by kernel_rfl) (fun _ _ _ h => h) hp (.inl ⟨by rfl, fun w _ => ?_⟩) (fun hq => ?_)
    rotate_left
    · go_simp
      with_reducible rfl
    clear hp; have hp := hq; clear hq
    try simp only [Act.put, List.setIfInBounds_toArray, List.set_cons_zero, List.set_cons_succ]
    refine wpAnyR_step (i := 16) (o := ⟨some 35, _, _, _, _, _⟩) (by kernel_rfl) rfl (by rfl) (fun K hK => ?_) -- Op.call { callee := Callee.value (Operand.func 25), args := #[Operand.tmp 32, Operand.tmp 33, Operand.tmp 34],
    go_simp
    refine (F.out.2.2.1 wd Xd.out.1).mono ?_
    rintro e we ⟨rfl, hbe⟩
    show K _ _
    have Xe := Lib.hid (And.intro (Xd.out.1.trans (hbe.mono Xd.out.1.size)) (Xd.out.2.below hbe Xd.out.2.lt))
    have hS2 := Xe.out.2
    have hS7 := Xe.out.2
    have hS14 := Xe.out.2
    have hS18 := Xe.out.2
    clear hbe
    refine hK _ _ (pend_off (by kernel_rfl) (pend_off (by kernel_rfl) (pend_off (by kernel_rfl) (pend_on hS18 pend_nil)))) (fun hq => ?_)
    clear hp hK K; have hp := hq; clear hq
    try simp only [Act.put, List.setIfInBounds_toArray, List.set_cons_zero, List.set_cons_succ]
    refine wpAnyR_step (i := 20) (o := ⟨some 39, _, _, _, _, _⟩) (by kernel_rfl) rfl (by rfl) (fun K hK => ?_) -- Op.call { callee := Callee.value (Operand.func 26), args := #[Operand.tmp 36, Operand.tmp 37, Operand.tmp 38],
    go_simp
    refine (F.out.2.2.2.1 we Xe.out.1).mono ?_
    rintro e wf ⟨rfl, hbf⟩
    show K _ _
    have Xf := Lib.hid (And.intro (Xe.out.1.trans (hbf.mono Xe.out.1.size)) (Xe.out.2.below hbf Xe.out.2.lt))
    have hS2 := Xf.out.2
    have hS7 := Xf.out.2
    have hS14 := Xf.out.2
    have hS18 := Xf.out.2
    clear hbf
    refine hK _ _ (pend_off (by kernel_rfl) (pend_off (by kernel_rfl) (pend_off (by kernel_rfl) (pend_off (by kernel_rfl) pend_nil)))) (fun hq => ?_)
    clear hp hK K; have hp := hq; clear hq
    try simp only [Act.put, List.setIfInBounds_toArray, List.set_cons_zero, List.set_cons_succ]
    refine wpAnyR_take (i := 21) (oi := ⟨some 40, _, _, _, _, _⟩) (v := ?_) rfl (by kernel_rfl) (by kernel_rfl) (by kernel_rfl) (fun _ _ _ h => h) hp (.inl ⟨by rfl, fun w _ => ?_⟩) (fun hq => ?_)
    rotate_left
    · go_simp
      with_reducible rfl
    clear hp; have hp := hq; clear hq
    try simp only [Act.put, List.setIfInBounds_toArray, List.set_cons_zero, List.set_cons_succ]
    refine wpAnyR_take (i := 22) (oi := ⟨some 41, _, _, _, _, _⟩) (v := ?_) rfl (by kernel_rfl) (by kernel_rfl) (by kernel_rfl) (fun _ _ _ h => h) hp (.inl ⟨by rfl, fun w _ => ?_⟩) (fun hq => ?_)
    rotate_left
    · go_simp
      with_reducible rfl
    clear hp; have hp := hq; clear hq
    try simp only [Act.put, List.setIfInBounds_toArray, List.set_cons_zero, List.set_cons_succ]
    refine wpAnyR_done (by kernel_rfl) ?_ _
    clear hp
    go_wp2
    go_meet
    exact ⟨by simp, Xf⟩
  case rest =>
  obtain ⟨rfl, HZ⟩ := hcut
  obtain ⟨w3, rfl⟩ : ∃ w3 : World, w3 = wc := ⟨_, rfl⟩
  have H3 := Lib.hid HZ.out
  have X1 := Lib.hid (And.intro HZ.out.1.drew HZ.out.2.drew)
  clear HZ
  apply_assumption
  go_upto_region 5 with fail
  go_cut [63] from 42 (fun s63 wx => s63 = .bool false ∧ Hid (Below w.heap.size w wx ∧ Blk wx b 28 (pCells cd)))
  case first =>
    refine wp_region_R (RL [(2, fun w' => Blk w' b 28 (pCells cd)), (7, fun w' => Blk w' b 28 (pCells cd))]) (by kernel_rfl) (RL_cons X1.out.2 (RL_cons X1.out.2 (RL_nil _))) (fun hp => ?_)
    refine wpAnyR_take (i := 0) (oi := ⟨some 42, _, _, _, _, _⟩) (v := ?_) rfl (by kernel_rfl) (by kernel_rfl) (by kernel_rfl) (fun _ _ _ h => h) hp (.inl ⟨by rfl, fun w _ => ?_⟩) (fun hq => ?_)
    rotate_left
    · go_simp
      with_reducible rfl
    clear hp; have hp := hq; clear hq
    try simp only [Act.put, List.setIfInBounds_toArray, List.set_cons_zero, List.set_cons_succ]
    refine wpAnyR_take (i := 1) (oi := ⟨some 43, _, _, _, _, _⟩) (v := ?_) rfl (by kernel_rfl) (by kernel_rfl) (by kernel_rfl) (fun _ _ _ h => h) hp (.inl ⟨by rfl, fun w _ => ?_⟩) (fun hq => ?_)
    rotate_left
    · go_simp
      with_reducible rfl
    clear hp; have hp := hq; clear hq
    try simp only [Act.put, List.setIfInBounds_toArray, List.set_cons_zero, List.set_cons_succ]
    refine wpAnyR_take (i := 2) (oi := ⟨some 44, _, _, _, _, _⟩) (v := ?_) rfl (by kernel_rfl) (by kernel_rfl) (by kernel_rfl) (fun _ _ _ h => h) hp (.inl ⟨by rfl, fun w hR => ?_⟩) (fun hq => ?_)
    rotate_left
    · have hR := hR.1 rfl
      (try dsimp only at hR)
      have k0 : w.cell? ⟨b, 0, none⟩ = some (.int .i64 cd.1) := hR.cell 0
      have k1 : w.cell? ⟨b, 1, none⟩ = some (.int .i64 cd.2) := hR.cell 1
      clear hR
      go_simp
      with_reducible rfl
    clear hp; have hp := hq; clear hq
    try simp only [Act.put, List.setIfInBounds_toArray, List.set_cons_zero, List.set_cons_succ]
    refine wpAnyR_take (i := 3) (oi := ⟨some 45, _, _, _, _, _⟩) (v := ?_) rfl (by kernel_rfl) (by kernel_rfl) (by kernel_rfl) (fun _ _ _ h => h) hp (.inl ⟨by rfl, fun w _ => ?_⟩) (fun hq => ?_)
    rotate_left
    · go_simp
      with_reducible rfl
    clear hp; have hp := hq; clear hq
    try simp only [Act.put, List.setIfInBounds_toArray, List.set_cons_zero, List.set_cons_succ]
    refine wpAnyR_take (i := 5) (oi := ⟨some 47, _, _, _, _, _⟩) (v := ?_) rfl (by kernel_rfl) (by kernel_rfl) (by kernel_rfl) (fun _ _ _ h => h) hp (.inl ⟨by rfl, fun w _ => ?_⟩) (fun hq => ?_)
    rotate_left
    · go_simp
      with_reducible rfl
    clear hp; have hp := hq; clear hq
    try simp only [Act.put, List.setIfInBounds_toArray, List.set_cons_zero, List.set_cons_succ]
    refine wpAnyR_take (i := 6) (oi := ⟨some 48, _, _, _, _, _⟩) (v := ?_) rfl (by kernel_rfl) (by kernel_rfl) (by kernel_rfl) (fun _ _ _ h => h) hp (.inl ⟨by rfl, fun w _ => ?_⟩) (fun hq => ?_)
    rotate_left
    · go_simp
      with_reducible rfl
    clear hp; have hp := hq; clear hq
    try simp only [Act.put, List.setIfInBounds_toArray, List.set_cons_zero, List.set_cons_succ]
    refine wpAnyR_take (i := 7) (oi := ⟨some 49, _, _, _, _, _⟩) (v := ?_) rfl (by kernel_rfl) (by kernel_rfl) (by kernel_rfl) (fun _ _ _ h => h) hp (.inl ⟨by rfl, fun w hR => ?_⟩) (fun hq => ?_)
    rotate_left
    · have hR := hR.2.1 rfl
      (try dsimp only at hR)
      have k0 : w.cell? ⟨b, 0, none⟩ = some (.int .i64 cd.1) := hR.cell 0
      have k1 : w.cell? ⟨b, 1, none⟩ = some (.int .i64 cd.2) := hR.cell 1
      clear hR
      go_simp
      with_reducible rfl
    clear hp; have hp := hq; clear hq
    try simp only [Act.put, List.setIfInBounds_toArray, List.set_cons_zero, List.set_cons_succ]
    refine wpAnyR_take (i := 8) (oi := ⟨some 50, _, _, _, _, _⟩) (v := ?_) rfl (by kernel_rfl) (by kernel_rfl) (by kernel_rfl) (fun _ _ _ h => h) hp (.inl ⟨by rfl, fun w _ => ?_⟩) (fun hq => ?_)
    rotate_left
    · go_simp
      with_reducible rfl
    clear hp; have hp := hq; clear hq
    try simp only [Act.put, List.setIfInBounds_toArray, List.set_cons_zero, List.set_cons_succ]
    refine wpAnyR_step (i := 4) (o := ⟨some 46, _, _, _, _, _⟩) (by kernel_rfl) rfl (by rfl) (fun K hK => ?_) -- Op.call { callee := Callee.value (Operand.func 27), args := #[Operand.tmp 42, Operand.tmp 44, Operand.tmp 45],
    go_simp
    refine (F.out.2.2.2.2.1 _ X1.out.1).mono ?_
    rintro e wa ⟨va, rfl, hoa, hba⟩
    obtain ⟨A1, q1, rfl, hNa⟩ := own_nums hoa rfl
    show K _ _
    have Xa := Lib.hid (And.intro (X1.out.1.trans (hba.mono X1.out.1.size)) (X1.out.2.below hba X1.out.2.lt))
    have hS2 := Xa.out.2
    have hS7 := Xa.out.2
    have hS14 := Xa.out.2
    have hS18 := Xa.out.2
    have Na := Lib.hid hNa
    clear hba hoa hNa
    refine hK _ _ (pend_off (by kernel_rfl) (pend_on hS7 pend_nil)) (fun hq => ?_)
    clear hp hK K; have hp := hq; clear hq
    try simp only [Act.put, List.setIfInBounds_toArray, List.set_cons_zero, List.set_cons_succ]
    refine wpAnyR_step (i := 9) (o := ⟨some 51, _, _, _, _, _⟩) (by kernel_rfl) rfl (by rfl) (fun K hK => ?_) -- Op.call { callee := Callee.value (Operand.func 28), args := #[Operand.tmp 47, Operand.tmp 49, Operand.tmp 50],
    go_simp
    refine (F.out.2.2.2.2.2.1 wa Xa.out.1).mono ?_
    rintro e wb ⟨vb, rfl, hob, hbb⟩
    obtain ⟨A2, q2, rfl, hNb⟩ := own_nums hob rfl
    show K _ _
    have Xb := Lib.hid (And.intro (Xa.out.1.trans (hbb.mono Xa.out.1.size)) (Xa.out.2.below hbb Xa.out.2.lt))
    have hS2 := Xb.out.2
    have hS7 := Xb.out.2
    have hS14 := Xb.out.2
    have hS18 := Xb.out.2
    have Nb := Lib.hid (And.intro (Na.out.below hbb) hNb)
    clear hbb hob hNb
    refine hK _ _ (pend_off (by kernel_rfl) (pend_off (by kernel_rfl) pend_nil)) (fun hq => ?_)
    clear hp hK K; have hp := hq; clear hq
    try simp only [Act.put, List.setIfInBounds_toArray, List.set_cons_zero, List.set_cons_succ]
    refine wpAnyR_step (i := 10) (o := ⟨some 52, _, _, _, _, _⟩) (by kernel_rfl) rfl (by rfl) (fun K hK => ?_) -- Op.call { callee := Callee.value (Operand.func 22), args := #[Operand.tmp 46, Operand.tmp 51], argTypes := #[4
    go_simp
    have hs := rSameInts_calls A1 A2 dl.length q1 dl.length q2 dl dl wb Nb.out.1 Nb.out.2 HLEN.out.2.1
    rw [show decide (dl = dl) = true by simp] at hs
    refine hs.mono ?_
    clear hs
    rintro e wd ⟨rfl, hbd⟩
    show K _ _
    have Xd := Lib.hid (And.intro (Xb.out.1.trans (hbd.mono Xb.out.1.size)) (Xb.out.2.below hbd Xb.out.2.lt))
    have hS2 := Xd.out.2
    have hS7 := Xd.out.2
    have hS14 := Xd.out.2
    have hS18 := Xd.out.2
    clear hbd
    refine hK _ _ (pend_off (by kernel_rfl) (pend_off (by kernel_rfl) pend_nil)) (fun hq => ?_)
    clear hp hK K; have hp := hq; clear hq
    try simp only [Act.put, List.setIfInBounds_toArray, List.set_cons_zero, List.set_cons_succ]
    refine wpAnyR_take (i := 11) (oi := ⟨some 53, _, _, _, _, _⟩) (v := ?_) rfl (by kernel_rfl) (by kernel_rfl) (by kernel_rfl) (fun _ _ _ h => h) hp (.inl ⟨by rfl, fun w _ => ?_⟩) (fun hq => ?_)
    rotate_left
    · go_simp
      with_reducible rfl
    clear hp; have hp := hq; clear hq
    try simp only [Act.put, List.setIfInBounds_toArray, List.set_cons_zero, List.set_cons_succ]
    refine wpAnyR_take (i := 12) (oi := ⟨some 54, _, _, _, _, _⟩) (v := ?_) rfl (by kernel_rfl) (by kernel_rfl) (by kernel_rfl) (fun _ _ _ h => h) hp (.inl ⟨by rfl, fun w _ => ?_⟩) (fun hq => ?_)
    rotate_left
    · go_simp
      with_reducible rfl
    clear hp; have hp := hq; clear hq
    try simp only [Act.put, List.setIfInBounds_toArray, List.set_cons_zero, List.set_cons_succ]
    refine wpAnyR_take (i := 13) (oi := ⟨some 55, _, _, _, _, _⟩) (v := ?_) rfl (by kernel_rfl) (by kernel_rfl) (by kernel_rfl) (fun _ _ _ h => h) hp (.inl ⟨by rfl, fun w _ => ?_⟩) (fun hq => ?_)
    rotate_left
    · go_simp
      with_reducible rfl
    clear hp; have hp := hq; clear hq
    try simp only [Act.put, List.setIfInBounds_toArray, List.set_cons_zero, List.set_cons_succ]
    refine wpAnyR_take (i := 14) (oi := ⟨some 56, _, _, _, _, _⟩) (v := ?_) rfl (by kernel_rfl) (by kernel_rfl) (by kernel_rfl) (fun _ _ _ h => h) hp (.inl ⟨by rfl, fun w _ => ?_⟩) (fun hq => ?_)
    rotate_left
    · go_simp
      with_reducible rfl
    clear hp; have hp := hq; clear hq
    try simp only [Act.put, List.setIfInBounds_toArray, List.set_cons_zero, List.set_cons_succ]
    refine wpAnyR_take (i := 16) (oi := ⟨some 58, _, _, _, _, _⟩) (v := ?_) rfl (by kernel_rfl) (by kernel_rfl) (by kernel_rfl) (fun _ _ _ h => h) hp (.inl ⟨by rfl, fun w _ => ?_⟩) (fun hq => ?_)
    rotate_left
    · go_simp
      with_reducible rfl
    clear hp; have hp := hq; clear hq
    try simp only [Act.put, List.setIfInBounds_toArray, List.set_cons_zero, List.set_cons_succ]
    refine wpAnyR_take (i := 17) (oi := ⟨some 59, _, _, _, _, _⟩) (v := ?_) rfl (by kernel_rfl) (by kernel_rfl) (by kernel_rfl) (fun _ _ _ h => h) hp (.inl ⟨by rfl, fun w _ => ?_⟩) (fun hq => ?_)
    rotate_left
    · go_simp
      with_reducible rfl
    clear hp; have hp := hq; clear hq
    try simp only [Act.put, List.setIfInBounds_toArray, List.set_cons_zero, List.set_cons_succ]
    refine wpAnyR_step (i := 15) (o := ⟨some 57, _, _, _, _, _⟩) (by kernel_rfl) rfl (by rfl) (fun K hK => ?_) -- Op.call { callee := Callee.value (Operand.func 30), args := #[Operand.tmp 55, Operand.tmp 56], argTypes := #[2
    go_simp
    refine (F.out.2.2.2.2.2.2.1 wd Xd.out.1).mono ?_
    rintro e we ⟨ve, rfl, hoe, hbe⟩
    obtain ⟨A3, q3, rfl, hNe, _⟩ := own_pairsAt hoe rfl
    show K _ _
    have Xe := Lib.hid (And.intro (Xd.out.1.trans (hbe.mono Xd.out.1.size)) (Xd.out.2.below hbe Xd.out.2.lt))
    have hS2 := Xe.out.2
    have hS7 := Xe.out.2
    have hS14 := Xe.out.2
    have hS18 := Xe.out.2
    have Ne := Lib.hid hNe
    clear hbe hoe hNe
    refine hK _ _ (pend_off (by kernel_rfl) (pend_off (by kernel_rfl) pend_nil)) (fun hq => ?_)
    clear hp hK K; have hp := hq; clear hq
    try simp only [Act.put, List.setIfInBounds_toArray, List.set_cons_zero, List.set_cons_succ]
    refine wpAnyR_step (i := 18) (o := ⟨some 60, _, _, _, _, _⟩) (by kernel_rfl) rfl (by rfl) (fun K hK => ?_) -- Op.call { callee := Callee.value (Operand.func 31), args := #[Operand.tmp 58, Operand.tmp 59], argTypes := #[2
    go_simp
    refine (F.out.2.2.2.2.2.2.2 we Xe.out.1).mono ?_
    rintro e wf ⟨vf, rfl, hof, hbf⟩
    obtain ⟨A4, q4, rfl, hNf, _⟩ := own_pairsAt hof rfl
    show K _ _
    have Xf := Lib.hid (And.intro (Xe.out.1.trans (hbf.mono Xe.out.1.size)) (Xe.out.2.below hbf Xe.out.2.lt))
    have hS2 := Xf.out.2
    have hS7 := Xf.out.2
    have hS14 := Xf.out.2
    have hS18 := Xf.out.2
    have Nf := Lib.hid (And.intro (Ne.out.below hbf) hNf)
    clear hbf hof hNf
    refine hK _ _ (pend_off (by kernel_rfl) (pend_off (by kernel_rfl) pend_nil)) (fun hq => ?_)
    clear hp hK K; have hp := hq; clear hq
    try simp only [Act.put, List.setIfInBounds_toArray, List.set_cons_zero, List.set_cons_succ]
    refine wpAnyR_step (i := 19) (o := ⟨some 61, _, _, _, _, _⟩) (by kernel_rfl) rfl (by rfl) (fun K hK => ?_) -- Op.call { callee := Callee.value (Operand.func 29), args := #[Operand.tmp 57, Operand.tmp 60], argTypes := #[4
    go_simp
    have hs := rSamePairs_calls A3 A4 ps.length q3 ps.length q4 ps ps wf Nf.out.1 Nf.out.2 HLEN.out.2.2
    rw [show decide (ps = ps) = true by simp] at hs
    refine hs.mono ?_
    clear hs
    rintro e wg ⟨rfl, hbg⟩
    show K _ _
    have Xg := Lib.hid (And.intro (Xf.out.1.trans (hbg.mono Xf.out.1.size)) (Xf.out.2.below hbg Xf.out.2.lt))
    have hS2 := Xg.out.2
    have hS7 := Xg.out.2
    have hS14 := Xg.out.2
    have hS18 := Xg.out.2
    clear hbg
    refine hK _ _ (pend_off (by kernel_rfl) (pend_off (by kernel_rfl) pend_nil)) (fun hq => ?_)
    clear hp hK K; have hp := hq; clear hq
    try simp only [Act.put, List.setIfInBounds_toArray, List.set_cons_zero, List.set_cons_succ]
    refine wpAnyR_take (i := 20) (oi := ⟨some 62, _, _, _, _, _⟩) (v := ?_) rfl (by kernel_rfl) (by kernel_rfl) (by kernel_rfl) (fun _ _ _ h => h) hp (.inl ⟨by rfl, fun w _ => ?_⟩) (fun hq => ?_)
    rotate_left
    · go_simp
      with_reducible rfl
    clear hp; have hp := hq; clear hq
    try simp only [Act.put, List.setIfInBounds_toArray, List.set_cons_zero, List.set_cons_succ]
    refine wpAnyR_take (i := 21) (oi := ⟨some 63, _, _, _, _, _⟩) (v := ?_) rfl (by kernel_rfl) (by kernel_rfl) (by kernel_rfl) (fun _ _ _ h => h) hp (.inl ⟨by rfl, fun w _ => ?_⟩) (fun hq => ?_)
    rotate_left
    · go_simp
      with_reducible rfl
    clear hp; have hp := hq; clear hq
    try simp only [Act.put, List.setIfInBounds_toArray, List.set_cons_zero, List.set_cons_succ]
    refine wpAnyR_done (by kernel_rfl) ?_ _
    clear hp
    go_wp2
    go_meet
    exact ⟨rfl, Xg⟩
  case rest =>
  obtain ⟨rfl, HZ⟩ := hcut
  obtain ⟨w4, rfl⟩ : ∃ w4 : World, w4 = wc := ⟨_, rfl⟩
  have H4 := Lib.hid HZ.out
  clear HZ X1 X0 H3
  apply_assumption
  have k0 : w4.cell? ⟨b, 0, none⟩ = some (.int .i64 cd.1) := H4.out.2.cell 0
  go_wp2_with fail
  refine (G.out.1 w4 H4.out.1).mono ?_
  rintro e w5 ⟨rfl, hbx⟩
  have H5 := Lib.hid (And.intro (H4.out.1.trans (hbx.mono H4.out.1.size)) (H4.out.2.below hbx H4.out.2.lt))
  clear hbx k0
  dsimp only
  have k0 : w5.cell? ⟨b, 0, none⟩ = some (.int .i64 cd.1) := H5.out.2.cell 0
  go_wp2_with fail
  refine (G.out.2.1 w5 H5.out.1).mono ?_
  rintro e w6 ⟨rfl, hbx⟩
  have H6 := Lib.hid (And.intro (H5.out.1.trans (hbx.mono H5.out.1.size)) (H5.out.2.below hbx H5.out.2.lt))
  clear hbx k0
  dsimp only
  have k0 : w6.cell? ⟨b, 0, none⟩ = some (.int .i64 cd.1) := H6.out.2.cell 0
  go_wp2_with fail
  refine (G.out.2.2.1 w6 H6.out.1).mono ?_
  rintro e w7 ⟨rfl, hbx⟩
  have H7 := Lib.hid (And.intro (H6.out.1.trans (hbx.mono H6.out.1.size)) (H6.out.2.below hbx H6.out.2.lt))
  clear hbx k0
  dsimp only
  have k0 : w7.cell? ⟨b, 0, none⟩ = some (.int .i64 cd.1) := H7.out.2.cell 0
  go_wp2_with fail
  refine (G.out.2.2.2 w7 H7.out.1).mono ?_
  rintro e w8 ⟨rfl, hbx⟩
  have H8 := Lib.hid (And.intro (H7.out.1.trans (hbx.mono H7.out.1.size)) (H7.out.2.below hbx H7.out.2.lt))
  clear hbx k0
  dsimp only
  go_wp2_with fail
  refine (alive_calls w8 (H.out.2.below H8.out.1)).mono ?_
  rintro e w9 ⟨rfl, hb9⟩
  have H9 := Lib.hid (H8.out.1.trans (hb9.mono H8.out.1.size))
  clear hb9
  dsimp only
  go_wp2
  go_ret
  exact ⟨rfl, H9.out⟩

end Go.Proofs.YtnphlekailodkaaGreatDoor
