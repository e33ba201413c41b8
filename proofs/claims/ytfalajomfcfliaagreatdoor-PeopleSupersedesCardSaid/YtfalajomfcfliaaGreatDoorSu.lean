/-
  The last order of a pair applies; cancelled, it leaves the one before: the law's walk.
-/
import Derived.Test.YtfalajomfcfliaaGreatDoorLw
import Derived.Test.YtfalajomfcfliaaGreatDoorSu0
import Derived.Test.YtfalajomfcfliaaGreatDoorOr
namespace Go.Proofs.YtfalajomfcfliaaGreatDoor
open Go.RowKit

theorem EntsAt.set {w : World} {A : Option Addr} {n : Nat} {l : List Pe.Ent} (h : EntsAt w A n l) {p : Addr} (hp : ∀ ad, A = some ad → ad.block ≠ p.block) (u : Value) : EntsAt (w.setCell p u) A n l := by
  refine ⟨h.len, h.most, ?_, h.ok⟩
  refine h.at_.imp id ?_
  rintro ⟨ad, hA, hl, hc⟩
  refine ⟨ad, hA, by simpa using hl, fun i x hi j v hv => ?_⟩
  have hb : ((ad.add (i * 10)).add j).block = ad.block := by rw [Addr.add_add]; unfold Addr.add; split <;> rfl
  rw [World.cell?_of_block (heap_setCell_other w p _ u (by rw [hb]; exact hp ad hA))]
  exact hc i x hi j v hv
theorem cancel_ok {x : Pe.Ent} (h : EOk x) : EOk (Pe.cancelOf x) := ⟨(by show 6 < 256; omega), rfl, rfl, h.order, h.day, Nat.zero_le _⟩

set_option maxRecDepth 1000000 in
set_option maxHeartbeats 16000000 in
theorem supersedes_law (A : Option Addr) (n c : Nat) (l : List Pe.Ent) (x : Pe.Ent) (d : Int) (w : World) (h : EntsAt w A n l) (hA : A = none → n = 0) (hx : EOk x) (hL : Laid w) :
    Calls Tryz.prog 9 #[.slice A n c, .agg (eCells x), .int .i64 d] w (Law w) := by
  have H := Lib.hid (And.intro h (And.intro hL (And.intro hA hx)))
  clear h hL hA hx
  have hfe := fun w0 => Few_calls A n c w0
  have HFE := Lib.hid hfe
  clear hfe
  go_enter Tryz.func9, Tryz.ntmps9
  unfold eCells
  go_upto_region 1 with fail
  obtain ⟨ex, hex⟩ : ∃ ex, ex = w.heap.size := ⟨_, rfl⟩
  obtain ⟨w1, hw1⟩ : ∃ w1, w1 = w.alloc (.cells (eCells x) 29) := ⟨_, rfl⟩
  have hb1 : Below w.heap.size w w1 := by rw [hw1]; exact (Below.refl _ w).alloc (Nat.le_refl _) _
  have hx1 : Blk w1 ex 29 (eCells x) := by rw [hw1, hex]; exact Blk.fresh _ _ _
  unfold eCells at hw1
  rw [← hex, ← hw1]
  have H1 := Lib.hid (And.intro hb1 (And.intro hx1 hex))
  clear hb1 hx1 hw1 hex
  have c0 : w1.cell? ⟨ex, 0, none⟩ = some (.int .i64 x.day) := H1.out.2.1.cell 0
  have c1 : w1.cell? ⟨ex, 1, none⟩ = some (.int .u8 (x.kind : Int)) := H1.out.2.1.cell 1
  have c2 : w1.cell? ⟨ex, 2, none⟩ = some (.int .i64 x.since) := H1.out.2.1.cell 2
  have c3 : w1.cell? ⟨ex, 3, none⟩ = some (.int .i64 x.til) := H1.out.2.1.cell 3
  have c4 : w1.cell? ⟨ex, 4, none⟩ = some (.int .i64 x.person) := H1.out.2.1.cell 4
  have c5 : w1.cell? ⟨ex, 5, none⟩ = some (.int .i64 x.place) := H1.out.2.1.cell 5
  have c6 : w1.cell? ⟨ex, 6, none⟩ = some (.int .i64 x.other) := H1.out.2.1.cell 6
  have c7 : w1.cell? ⟨ex, 7, none⟩ = some (.int .i64 x.at_) := H1.out.2.1.cell 7
  have c8 : w1.cell? ⟨ex, 8, none⟩ = some (.int .i64 x.order) := H1.out.2.1.cell 8
  have c9 : w1.cell? ⟨ex, 9, none⟩ = some (.string (bs x.name)) := H1.out.2.1.cell 9
  by_cases hfew : n ≤ 60
  case neg =>
    have d1 : decide (n ≤ 60) = false := by simpa using hfew
    have HD := Lib.hid d1
    clear d1 hfew
    go_wp2_with fail
    refine (HFE.out w1).mono ?_
    rintro e w2 ⟨rfl, rfl⟩
    rw [HD.out]
    dsimp only
    go_wp2_with fail
    refine (alive_calls w2 (H.out.2.1.below H1.out.1)).mono ?_
    rintro e wy ⟨rfl, hby⟩
    have HY := Lib.hid (H1.out.1.trans (hby.mono H1.out.1.size))
    clear hby
    dsimp only
    go_wp2
    go_ret
    exact ⟨rfl, HY.out⟩
  have d1 : decide (n ≤ 60) = true := by simpa using hfew
  have HD := Lib.hid d1
  have HN := Lib.hid hfew
  clear d1 hfew
  by_cases hk : x.kind = 5
  case neg =>
    have k1 : ((x.kind : Int) != 5) = true := by simp; omega
    clear hk
    go_wp2_with fail
    refine (HFE.out w1).mono ?_
    rintro e w2 ⟨rfl, rfl⟩
    rw [HD.out]
    dsimp only
    go_wp2_with fail
    refine (alive_calls w2 (H.out.2.1.below H1.out.1)).mono ?_
    rintro e wy ⟨rfl, hby⟩
    have HY := Lib.hid (H1.out.1.trans (hby.mono H1.out.1.size))
    clear hby
    dsimp only
    go_wp2
    go_ret
    exact ⟨rfl, HY.out⟩
  by_cases hp : x.place = 0
  case pos =>
    have HK := Lib.hid (And.intro hk hp)
    rw [hk] at c1
    rw [hp] at c5
    clear hk hp
    go_wp2_with fail
    refine (HFE.out w1).mono ?_
    rintro e w2 ⟨rfl, rfl⟩
    rw [HD.out]
    dsimp only
    go_wp2_with fail
    refine (alive_calls w2 (H.out.2.1.below H1.out.1)).mono ?_
    rintro e wy ⟨rfl, hby⟩
    have HY := Lib.hid (H1.out.1.trans (hby.mono H1.out.1.size))
    clear hby
    dsimp only
    go_wp2
    go_ret
    exact ⟨rfl, HY.out⟩
  have q5 : (x.place == 0) = false := by simpa using hp
  have HK := Lib.hid (And.intro hk hp)
  rw [hk] at c1
  clear hk hp
  go_wp2_with fail
  refine (HFE.out w1).mono ?_
  rintro e w2 ⟨rfl, rfl⟩
  rw [HD.out]
  dsimp only
  go_wp2_with fail
  have hac := Append_calls A n c l x w2 (H.out.1.below H1.out.1) H.out.2.2.1 H.out.2.2.2
  unfold eCells at hac
  rw [HK.out.1] at hac
  have HAC := Lib.hid hac
  clear hac
  refine HAC.out.mono ?_
  rintro e w3 ⟨hb3, h3⟩
  have H3 := Lib.hid (And.intro (H1.out.1.trans (hb3.mono H1.out.1.size)) (H1.out.2.1.below hb3 H1.out.2.1.lt))
  clear hb3
  clear c0 c1 c2 c3 c4 c5 c6 c7 c8 c9
  rcases h3 with ⟨h3, rfl⟩ | ⟨_, h3, rfl⟩ | ⟨h3, h3b, v, rfl, hown⟩
  · have q3 : ((Pe.check l).2 != 0) = true := by simpa using h3
    clear h3
    dsimp only
    go_wp2_with fail
    refine (alive_calls w3 (H.out.2.1.below H3.out.1)).mono ?_
    rintro e wy ⟨rfl, hby⟩
    have HY := Lib.hid (H3.out.1.trans (hby.mono H3.out.1.size))
    clear hby
    dsimp only
    go_wp2
    go_ret
    exact ⟨rfl, HY.out⟩
  · have q3 : ((Pe.check (l ++ [x])).2 != 0) = true := by simpa using h3
    clear h3
    dsimp only
    go_wp2_with fail
    refine (alive_calls w3 (H.out.2.1.below H3.out.1)).mono ?_
    rintro e wy ⟨rfl, hby⟩
    have HY := Lib.hid (H3.out.1.trans (hby.mono H3.out.1.size))
    clear hby
    dsimp only
    go_wp2
    go_ret
    exact ⟨rfl, HY.out⟩
  have hnx : Pe.next l x = 0 := by
    have := Pe.check_snoc (x := x) h3
    rw [this] at h3b
    by_cases hz : Pe.next l x = 0
    · exact hz
    · rw [if_pos hz] at h3b; exact h3b
  obtain ⟨B, cB, rfl, hEm⟩ := own_ents hown (by simp; exact H.out.1.len) (fun y hy => by
    rcases List.mem_append.1 hy with hy | hy
    · exact H.out.1.ok y hy
    · rw [List.mem_singleton.1 hy]; exact H.out.2.2.2)
  have hBB : ∀ ad, B = some ad → ad.block < w3.heap.size := fun ad e => by
    obtain ⟨ad', h1, h2, _⟩ := hEm.at_.resolve_left (by simp)
    rw [e] at h1
    injection h1 with h1
    rw [h1]; exact h2
  have HBB := Lib.hid hBB
  clear hBB
  obtain ⟨m, hm⟩ : ∃ m, m = l ++ [x] := ⟨_, rfl⟩
  rw [← hm] at hEm
  have hBn : B = none → n + 1 = 0 := fun e => by
    subst e
    obtain ⟨g, cap, hv, _⟩ := own_form hown (by omega)
    cases hv
  have HM := Lib.hid (And.intro hEm (And.intro hm (And.intro (Pe.check_valid h3) (And.intro hnx (And.intro h3 (And.intro h3b hBn))))))
  clear hEm hm hnx h3 h3b hown hBn
  dsimp only
  have c0 : w3.cell? ⟨ex, 0, none⟩ = some (.int .i64 x.day) := H3.out.2.cell 0
  have c1 : w3.cell? ⟨ex, 1, none⟩ = some (.int .u8 (x.kind : Int)) := H3.out.2.cell 1
  have c2 : w3.cell? ⟨ex, 2, none⟩ = some (.int .i64 x.since) := H3.out.2.cell 2
  have c3 : w3.cell? ⟨ex, 3, none⟩ = some (.int .i64 x.til) := H3.out.2.cell 3
  have c4 : w3.cell? ⟨ex, 4, none⟩ = some (.int .i64 x.person) := H3.out.2.cell 4
  have c5 : w3.cell? ⟨ex, 5, none⟩ = some (.int .i64 x.place) := H3.out.2.cell 5
  have c6 : w3.cell? ⟨ex, 6, none⟩ = some (.int .i64 x.other) := H3.out.2.cell 6
  have c7 : w3.cell? ⟨ex, 7, none⟩ = some (.int .i64 x.at_) := H3.out.2.cell 7
  have c8 : w3.cell? ⟨ex, 8, none⟩ = some (.int .i64 x.order) := H3.out.2.cell 8
  have c9 : w3.cell? ⟨ex, 9, none⟩ = some (.string (bs x.name)) := H3.out.2.cell 9
  go_upto_region 7 with fail
  obtain ⟨cb, hg⟩ : ∃ g, g = w3.heap.size := ⟨_, rfl⟩
  obtain ⟨w4, hw⟩ : ∃ w0, w0 = w3.alloc (.cells #[.int .i64 x.person, .int .i64 x.place] 40) := ⟨_, rfl⟩
  have hbl : Below w3.heap.size w3 w4 := by rw [hw]; exact (Below.refl _ w3).alloc (Nat.le_refl _) _
  have hgb : Blk w4 cb 40 #[.int .i64 x.person, .int .i64 x.place] := by rw [hw, hg]; exact Blk.fresh _ _ _
  rw [← hg, ← hw]
  have H4e := Lib.hid (show ex < cb by rw [hg]; exact H3.out.2.lt)
  have HCB := Lib.hid hg
  have H4 := Lib.hid (And.intro (H3.out.1.trans (hbl.mono H3.out.1.size)) (And.intro (H3.out.2.below hbl H3.out.2.lt) (And.intro hgb (HM.out.1.below hbl))))
  clear c0 c1 c2 c3 c4 c5 c6 c7 c8 c9
  clear hbl hgb hg hw
  have c0 : w4.cell? ⟨ex, 0, none⟩ = some (.int .i64 x.day) := H4.out.2.1.cell 0
  have c1 : w4.cell? ⟨ex, 1, none⟩ = some (.int .u8 (x.kind : Int)) := H4.out.2.1.cell 1
  have c2 : w4.cell? ⟨ex, 2, none⟩ = some (.int .i64 x.since) := H4.out.2.1.cell 2
  have c3 : w4.cell? ⟨ex, 3, none⟩ = some (.int .i64 x.til) := H4.out.2.1.cell 3
  have c4 : w4.cell? ⟨ex, 4, none⟩ = some (.int .i64 x.person) := H4.out.2.1.cell 4
  have c5 : w4.cell? ⟨ex, 5, none⟩ = some (.int .i64 x.place) := H4.out.2.1.cell 5
  have c6 : w4.cell? ⟨ex, 6, none⟩ = some (.int .i64 x.other) := H4.out.2.1.cell 6
  have c7 : w4.cell? ⟨ex, 7, none⟩ = some (.int .i64 x.at_) := H4.out.2.1.cell 7
  have c8 : w4.cell? ⟨ex, 8, none⟩ = some (.int .i64 x.order) := H4.out.2.1.cell 8
  have c9 : w4.cell? ⟨ex, 9, none⟩ = some (.string (bs x.name)) := H4.out.2.1.cell 9
  go_upto_region 8 with fail
  obtain ⟨tb, hg⟩ : ∃ g, g = w4.heap.size := ⟨_, rfl⟩
  obtain ⟨w5, hw⟩ : ∃ w0, w0 = w4.alloc (.cells #[.int .i64 x.other, .int .i64 x.at_] 40) := ⟨_, rfl⟩
  have hbl : Below w4.heap.size w4 w5 := by rw [hw]; exact (Below.refl _ w4).alloc (Nat.le_refl _) _
  have hgb : Blk w5 tb 40 #[.int .i64 x.other, .int .i64 x.at_] := by rw [hw, hg]; exact Blk.fresh _ _ _
  rw [← hg, ← hw]
  have hct : cb < tb := by rw [hg]; exact H4.out.2.2.1.lt
  have H5 := Lib.hid (And.intro (H4.out.1.trans (hbl.mono H4.out.1.size)) (And.intro (H4.out.2.1.below hbl H4.out.2.1.lt) (And.intro (H4.out.2.2.1.below hbl H4.out.2.2.1.lt) (And.intro hgb (And.intro (H4.out.2.2.2.below hbl) hct)))))
  clear c0 c1 c2 c3 c4 c5 c6 c7 c8 c9
  clear hbl hgb hg hw hct
  have c0 : w5.cell? ⟨ex, 0, none⟩ = some (.int .i64 x.day) := H5.out.2.1.cell 0
  have c1 : w5.cell? ⟨ex, 1, none⟩ = some (.int .u8 (x.kind : Int)) := H5.out.2.1.cell 1
  have c2 : w5.cell? ⟨ex, 2, none⟩ = some (.int .i64 x.since) := H5.out.2.1.cell 2
  have c3 : w5.cell? ⟨ex, 3, none⟩ = some (.int .i64 x.til) := H5.out.2.1.cell 3
  have c4 : w5.cell? ⟨ex, 4, none⟩ = some (.int .i64 x.person) := H5.out.2.1.cell 4
  have c5 : w5.cell? ⟨ex, 5, none⟩ = some (.int .i64 x.place) := H5.out.2.1.cell 5
  have c6 : w5.cell? ⟨ex, 6, none⟩ = some (.int .i64 x.other) := H5.out.2.1.cell 6
  have c7 : w5.cell? ⟨ex, 7, none⟩ = some (.int .i64 x.at_) := H5.out.2.1.cell 7
  have c8 : w5.cell? ⟨ex, 8, none⟩ = some (.int .i64 x.order) := H5.out.2.1.cell 8
  have c9 : w5.cell? ⟨ex, 9, none⟩ = some (.string (bs x.name)) := H5.out.2.1.cell 9
  have hdc := fun p w0 (hb : Below w5.heap.size w5 w0) => Dead_calls B (n + 1) cB m p d w0 (H5.out.2.2.2.2.1.below hb)
  have hhc := fun w0 (hb : Below w5.heap.size w5 w0) => Home_calls B (n + 1) cB m x.other d w0 (H5.out.2.2.2.2.1.below hb)
  have HC := Lib.hid (And.intro hdc hhc)
  clear hdc hhc
  obtain ⟨T, hT⟩ : ∃ T, T = (if x.at_ = 0 ∧ Pe.dead m x.other d = false then (Pe.home? m x.other d).getD 0 else x.at_) := ⟨_, rfl⟩
  obtain ⟨bv, hbv⟩ : ∃ bv, bv = (x.at_ == 0 && !Pe.dead m x.other d) := ⟨_, rfl⟩
  have HT := Lib.hid (And.intro hT hbv)
  clear hT hbv
  go_cut [67] from 52 (fun s67 wx => s67 = .bool bv ∧ Hid (Below w5.heap.size w5 wx))
  case first =>
    by_cases ha : x.at_ = 0
    · have q7 : (x.at_ == 0) = true := by simp [ha]
      have HA := Lib.hid q7
      clear ha
      go_wp2_with fail
      refine (HC.out.1 x.other w5 (Below.refl _ _)).mono ?_
      rintro e wz ⟨rfl, hbz⟩
      have HZ := Lib.hid hbz
      clear hbz q7
      dsimp only
      go_wp2
      go_meet
      exact ⟨by rw [HT.out.2, HA.out]; rfl, HZ⟩
    · have q7 : (x.at_ == 0) = false := by simp [ha]
      have HA := Lib.hid q7
      clear ha
      go_wp2
      go_meet
      exact ⟨by rw [HT.out.2, HA.out]; rfl, Lib.hid (Below.refl _ _)⟩
  case rest =>
  obtain ⟨rfl, HZ⟩ := hcut
  obtain ⟨w6, rfl⟩ : ∃ w6 : World, w6 = wc := ⟨_, rfl⟩
  have H6 := Lib.hid (And.intro (H5.out.1.trans (HZ.out.mono H5.out.1.size)) (And.intro (H5.out.2.1.below HZ.out H5.out.2.1.lt) (And.intro (H5.out.2.2.1.below HZ.out H5.out.2.2.1.lt) (And.intro (H5.out.2.2.2.1.below HZ.out H5.out.2.2.2.1.lt) (And.intro (H5.out.2.2.2.2.1.below HZ.out) (And.intro HZ.out H5.out.2.2.2.2.2))))))
  clear c0 c1 c2 c3 c4 c5 c6 c7 c8 c9
  clear HZ
  apply_assumption
  have c0 : w6.cell? ⟨ex, 0, none⟩ = some (.int .i64 x.day) := H6.out.2.1.cell 0
  have c1 : w6.cell? ⟨ex, 1, none⟩ = some (.int .u8 (x.kind : Int)) := H6.out.2.1.cell 1
  have c2 : w6.cell? ⟨ex, 2, none⟩ = some (.int .i64 x.since) := H6.out.2.1.cell 2
  have c3 : w6.cell? ⟨ex, 3, none⟩ = some (.int .i64 x.til) := H6.out.2.1.cell 3
  have c4 : w6.cell? ⟨ex, 4, none⟩ = some (.int .i64 x.person) := H6.out.2.1.cell 4
  have c5 : w6.cell? ⟨ex, 5, none⟩ = some (.int .i64 x.place) := H6.out.2.1.cell 5
  have c6 : w6.cell? ⟨ex, 6, none⟩ = some (.int .i64 x.other) := H6.out.2.1.cell 6
  have c7 : w6.cell? ⟨ex, 7, none⟩ = some (.int .i64 x.at_) := H6.out.2.1.cell 7
  have c8 : w6.cell? ⟨ex, 8, none⟩ = some (.int .i64 x.order) := H6.out.2.1.cell 8
  have c9 : w6.cell? ⟨ex, 9, none⟩ = some (.string (bs x.name)) := H6.out.2.1.cell 9
  go_cut [] from 68 (fun wx => Hid (Below w.heap.size w wx ∧ Blk wx ex 29 (eCells x) ∧ Blk wx cb 40 #[.int .i64 x.person, .int .i64 x.place] ∧ Blk wx tb 40 #[.int .i64 x.other, .int .i64 T] ∧ EntsAt wx B (n + 1) m))
  case first =>
    cases bv
    · have hT : T = x.at_ := by
        rw [HT.out.1]
        refine if_neg (fun hq => ?_)
        have h2 := HT.out.2
        rw [hq.1, hq.2] at h2
        cases h2
      have HTT := Lib.hid hT
      clear hT
      go_wp2
      go_meet
      exact Lib.hid ⟨H6.out.1, H6.out.2.1, H6.out.2.2.1, by rw [HTT.out]; exact H6.out.2.2.2.1, H6.out.2.2.2.2.1⟩
    · have hT : T = (Pe.home? m x.other d).getD 0 := by
        rw [HT.out.1]
        have h2 := HT.out.2.symm
        rw [Bool.and_eq_true, beq_iff_eq, Bool.not_eq_true'] at h2
        exact if_pos h2
      have HTT := Lib.hid hT
      clear hT
      go_wp2_with fail
      refine (HC.out.2 w6 H6.out.2.2.2.2.2.1).mono ?_
      rintro e w7 ⟨rfl, hb7⟩
      rw [← HTT.out]
      have H7 := Lib.hid (And.intro (H6.out.1.trans (hb7.mono H6.out.1.size)) (And.intro (H6.out.2.1.below hb7 H6.out.2.1.lt) (And.intro (H6.out.2.2.1.below hb7 H6.out.2.2.1.lt) (And.intro (H6.out.2.2.2.1.below hb7 H6.out.2.2.2.1.lt) (H6.out.2.2.2.2.1.below hb7)))))
      clear c0 c1 c2 c3 c4 c5 c6 c7 c8 c9
      clear hb7
      have t1 : w7.cell? ⟨tb, 1, none⟩ = some (.int .i64 x.at_) := H7.out.2.2.2.1.cell 1
      have f1 := H7.out.2.2.2.1.frozen 1
      have lt : tb < w7.heap.size := H7.out.2.2.2.1.lt
      dsimp only
      go_wp2
      go_meet
      have hct := H6.out.2.2.2.2.2.2
      have hec : ex < cb := H4e.out
      have hsz : w.heap.size ≤ tb := by have := H1.out.2.2; omega
      exact Lib.hid ⟨H7.out.1.setCell (p := ⟨tb, 1, none⟩) hsz _, H7.out.2.1.far (by simp; omega) _, H7.out.2.2.1.far (by simp; omega) _, H7.out.2.2.2.1.put 1 _, H7.out.2.2.2.2.set (p := ⟨tb, 1, none⟩) (fun ad e => by have := HBB.out ad e; have := HCB.out; simp only [ne_eq]; omega) _⟩
  case rest =>
  have HZ := hcut
  obtain ⟨w7, rfl⟩ : ∃ w7 : World, w7 = wc := ⟨_, rfl⟩
  have H7 := Lib.hid HZ.out
  clear c0 c1 c2 c3 c4 c5 c6 c7 c8 c9
  clear HZ H6 hcut HC
  apply_assumption
  have k0 : w7.cell? ⟨cb, 0, none⟩ = some (.int .i64 x.person) := H7.out.2.2.1.cell 0
  have k1 : w7.cell? ⟨cb, 1, none⟩ = some (.int .i64 x.place) := H7.out.2.2.1.cell 1
  have hoc := Order_calls B (n + 1) cB m (x.person, x.place) d w7 H7.out.2.2.2.2
  obtain ⟨y, hy⟩ : ∃ y, y = (Pe.order? m (x.person, x.place) d).getD Pe.zero := ⟨_, rfl⟩
  obtain ⟨I, hI⟩ : ∃ I, I = (Pe.order? m (x.person, x.place) d).isSome := ⟨_, rfl⟩
  rw [← hy, ← hI] at hoc
  unfold pCells at hoc
  have HOC := Lib.hid hoc
  have HY := Lib.hid (And.intro hy hI)
  clear hoc hy hI
  go_wp2_with fail
  refine HOC.out.mono ?_
  rintro e w8 ⟨rfl, hb8⟩
  have H8 := Lib.hid (And.intro (H7.out.1.trans (hb8.mono H7.out.1.size)) (And.intro (H7.out.2.1.below hb8 H7.out.2.1.lt) (And.intro (H7.out.2.2.1.below hb8 H7.out.2.2.1.lt) (And.intro (H7.out.2.2.2.1.below hb8 H7.out.2.2.2.1.lt) (H7.out.2.2.2.2.below hb8)))))
  clear hb8 k0 k1 HOC
  unfold eCells
  dsimp only
  go_upto_region 11 with fail
  obtain ⟨yb, hg⟩ : ∃ g, g = w8.heap.size := ⟨_, rfl⟩
  obtain ⟨w9, hw⟩ : ∃ w0, w0 = w8.alloc (.cells #[.int .i64 y.day, .int .u8 (y.kind : Int), .int .i64 y.since, .int .i64 y.til, .int .i64 y.person, .int .i64 y.place, .int .i64 y.other, .int .i64 y.at_, .int .i64 y.order, .string (bs y.name)] 29) := ⟨_, rfl⟩
  have hbl : Below w8.heap.size w8 w9 := by rw [hw]; exact (Below.refl _ w8).alloc (Nat.le_refl _) _
  have hgb : Blk w9 yb 29 #[.int .i64 y.day, .int .u8 (y.kind : Int), .int .i64 y.since, .int .i64 y.til, .int .i64 y.person, .int .i64 y.place, .int .i64 y.other, .int .i64 y.at_, .int .i64 y.order, .string (bs y.name)] := by rw [hw, hg]; exact Blk.fresh _ _ _
  rw [← hg, ← hw]
  have H9 := Lib.hid (And.intro (H8.out.1.trans (hbl.mono H8.out.1.size)) (And.intro (H8.out.2.1.below hbl H8.out.2.1.lt) (And.intro (H8.out.2.2.1.below hbl H8.out.2.2.1.lt) (And.intro (H8.out.2.2.2.1.below hbl H8.out.2.2.2.1.lt) (And.intro (H8.out.2.2.2.2.below hbl) hgb)))))
  clear hbl hgb hg hw
  go_cut [108] from 84 (fun s108 wx => s108 = .bool false ∧ Hid (Below w9.heap.size w9 wx))
  case first =>
    have c0 : w9.cell? ⟨ex, 0, none⟩ = some (.int .i64 x.day) := H9.out.2.1.cell 0
    have c1 : w9.cell? ⟨ex, 1, none⟩ = some (.int .u8 (x.kind : Int)) := H9.out.2.1.cell 1
    have c2 : w9.cell? ⟨ex, 2, none⟩ = some (.int .i64 x.since) := H9.out.2.1.cell 2
    have c3 : w9.cell? ⟨ex, 3, none⟩ = some (.int .i64 x.til) := H9.out.2.1.cell 3
    have c4 : w9.cell? ⟨ex, 4, none⟩ = some (.int .i64 x.person) := H9.out.2.1.cell 4
    have c5 : w9.cell? ⟨ex, 5, none⟩ = some (.int .i64 x.place) := H9.out.2.1.cell 5
    have c6 : w9.cell? ⟨ex, 6, none⟩ = some (.int .i64 x.other) := H9.out.2.1.cell 6
    have c7 : w9.cell? ⟨ex, 7, none⟩ = some (.int .i64 x.at_) := H9.out.2.1.cell 7
    have c8 : w9.cell? ⟨ex, 8, none⟩ = some (.int .i64 x.order) := H9.out.2.1.cell 8
    have c9 : w9.cell? ⟨ex, 9, none⟩ = some (.string (bs x.name)) := H9.out.2.1.cell 9
    obtain ⟨O, hO⟩ : ∃ O, O = x.on d := ⟨_, rfl⟩
    have hhc := Holds_calls x d w9
    rw [← hO] at hhc
    unfold eCells at hhc
    have HHC := Lib.hid hhc
    have HO := Lib.hid hO
    clear hhc hO
    go_wp2_with fail
    refine HHC.out.mono ?_
    rintro e wa ⟨rfl, hba⟩
    have HA := Lib.hid (And.intro hba (And.intro (H9.out.2.1.below hba H9.out.2.1.lt) (And.intro (H9.out.2.2.1.below hba H9.out.2.2.1.lt) (And.intro (H9.out.2.2.2.1.below hba H9.out.2.2.2.1.lt) (And.intro (H9.out.2.2.2.2.1.below hba) (H9.out.2.2.2.2.2.below hba H9.out.2.2.2.2.2.lt))))))
    clear c0 c1 c2 c3 c4 c5 c6 c7 c8 c9
    clear hba
    dsimp only
    cases O
    · go_wp2
      go_meet
      exact ⟨rfl, Lib.hid HA.out.1⟩
    obtain ⟨D, hD⟩ : ∃ D, D = Pe.dead m x.person d := ⟨_, rfl⟩
    have hdc := Dead_calls B (n + 1) cB m x.person d wa HA.out.2.2.2.2.1
    rw [← hD] at hdc
    have HDC := Lib.hid hdc
    have HD2 := Lib.hid hD
    clear hdc hD
    have c4 : wa.cell? ⟨ex, 4, none⟩ = some (.int .i64 x.person) := HA.out.2.1.cell 4
    go_wp2_with fail
    refine HDC.out.mono ?_
    rintro e wb ⟨rfl, hbb⟩
    have HB := Lib.hid (And.intro (HA.out.1.trans (hbb.mono HA.out.1.size)) (And.intro (HA.out.2.1.below hbb HA.out.2.1.lt) (And.intro (HA.out.2.2.1.below hbb HA.out.2.2.1.lt) (And.intro (HA.out.2.2.2.1.below hbb HA.out.2.2.2.1.lt) (HA.out.2.2.2.2.2.below hbb HA.out.2.2.2.2.2.lt)))))
    clear hbb c4
    dsimp only
    cases D
    case true =>
      go_wp2
      go_meet
      exact ⟨rfl, Lib.hid HB.out.1⟩
    have t0 : wb.cell? ⟨tb, 0, none⟩ = some (.int .i64 x.other) := HB.out.2.2.2.1.cell 0
    have t1 : wb.cell? ⟨tb, 1, none⟩ = some (.int .i64 T) := HB.out.2.2.2.1.cell 1
    have k0 : wb.cell? ⟨cb, 0, none⟩ = some (.int .i64 x.person) := HB.out.2.2.1.cell 0
    have k1 : wb.cell? ⟨cb, 1, none⟩ = some (.int .i64 x.place) := HB.out.2.2.1.cell 1
    obtain ⟨E, hE⟩ : ∃ E, E = !decide (((x.other, T) : Pe.Pair) = (x.person, x.place)) := ⟨_, rfl⟩
    have hnq : ∀ w0, (binOp .neq 40 (.agg #[.int .i64 x.other, .int .i64 T]) (.agg #[.int .i64 x.person, .int .i64 x.place])).run Tryz.prog w0 = .ok (.bool E) w0 := fun w0 => by rw [hE]; exact neq_pair (x.other, T) (x.person, x.place) w0
    have HE := Lib.hid hE
    clear hE
    cases E
    · go_wp2
      go_meet
      exact ⟨rfl, Lib.hid HB.out.1⟩
    have hkey : Pe.order? m (x.person, x.place) d = some x := by
      rw [HM.out.2.1]
      refine Pe.order_last HM.out.2.2.1 HM.out.2.2.2.1 HK.out.1 HK.out.2 HO.out.symm (by rw [← HM.out.2.1]; exact HD2.out.symm) ?_
      unfold Pe.toOf
      rw [← HM.out.2.1, ← HT.out.1]
      intro e
      have h1 := HE.out
      rw [decide_eq_true e] at h1
      cases h1
    have hy : y = x := by rw [HY.out.1, hkey]; rfl
    obtain rfl : I = true := by rw [HY.out.2, hkey]; rfl
    have hne : ∀ w0, (binOp .neq 29 (.agg (eCells y)) (.agg (eCells x))).run Tryz.prog w0 = .ok (.bool false) w0 := fun w0 => by
      have := neq_ent y x w0
      rw [show (!decide (y = x)) = false by simp [hy]] at this
      exact this
    unfold eCells at hne
    clear hkey hy
    have c0 : wb.cell? ⟨ex, 0, none⟩ = some (.int .i64 x.day) := HB.out.2.1.cell 0
    have c1 : wb.cell? ⟨ex, 1, none⟩ = some (.int .u8 (x.kind : Int)) := HB.out.2.1.cell 1
    have c2 : wb.cell? ⟨ex, 2, none⟩ = some (.int .i64 x.since) := HB.out.2.1.cell 2
    have c3 : wb.cell? ⟨ex, 3, none⟩ = some (.int .i64 x.til) := HB.out.2.1.cell 3
    have c4 : wb.cell? ⟨ex, 4, none⟩ = some (.int .i64 x.person) := HB.out.2.1.cell 4
    have c5 : wb.cell? ⟨ex, 5, none⟩ = some (.int .i64 x.place) := HB.out.2.1.cell 5
    have c6 : wb.cell? ⟨ex, 6, none⟩ = some (.int .i64 x.other) := HB.out.2.1.cell 6
    have c7 : wb.cell? ⟨ex, 7, none⟩ = some (.int .i64 x.at_) := HB.out.2.1.cell 7
    have c8 : wb.cell? ⟨ex, 8, none⟩ = some (.int .i64 x.order) := HB.out.2.1.cell 8
    have c9 : wb.cell? ⟨ex, 9, none⟩ = some (.string (bs x.name)) := HB.out.2.1.cell 9
    have y0 : wb.cell? ⟨yb, 0, none⟩ = some (.int .i64 y.day) := HB.out.2.2.2.2.cell 0
    have y1 : wb.cell? ⟨yb, 1, none⟩ = some (.int .u8 (y.kind : Int)) := HB.out.2.2.2.2.cell 1
    have y2 : wb.cell? ⟨yb, 2, none⟩ = some (.int .i64 y.since) := HB.out.2.2.2.2.cell 2
    have y3 : wb.cell? ⟨yb, 3, none⟩ = some (.int .i64 y.til) := HB.out.2.2.2.2.cell 3
    have y4 : wb.cell? ⟨yb, 4, none⟩ = some (.int .i64 y.person) := HB.out.2.2.2.2.cell 4
    have y5 : wb.cell? ⟨yb, 5, none⟩ = some (.int .i64 y.place) := HB.out.2.2.2.2.cell 5
    have y6 : wb.cell? ⟨yb, 6, none⟩ = some (.int .i64 y.other) := HB.out.2.2.2.2.cell 6
    have y7 : wb.cell? ⟨yb, 7, none⟩ = some (.int .i64 y.at_) := HB.out.2.2.2.2.cell 7
    have y8 : wb.cell? ⟨yb, 8, none⟩ = some (.int .i64 y.order) := HB.out.2.2.2.2.cell 8
    have y9 : wb.cell? ⟨yb, 9, none⟩ = some (.string (bs y.name)) := HB.out.2.2.2.2.cell 9
    go_wp2
    go_meet
    exact ⟨rfl, Lib.hid HB.out.1⟩
  case rest =>
  obtain ⟨rfl, HZ⟩ := hcut
  obtain ⟨w10, rfl⟩ : ∃ w10 : World, w10 = wc := ⟨_, rfl⟩
  have H10 := Lib.hid (And.intro (H9.out.1.trans (HZ.out.mono H9.out.1.size)) (And.intro (H9.out.2.1.below HZ.out H9.out.2.1.lt) (And.intro (H9.out.2.2.1.below HZ.out H9.out.2.2.1.lt) (H9.out.2.2.2.2.1.below HZ.out))))
  clear HZ
  apply_assumption
  have c0 : w10.cell? ⟨ex, 0, none⟩ = some (.int .i64 x.day) := H10.out.2.1.cell 0
  have c1 : w10.cell? ⟨ex, 1, none⟩ = some (.int .u8 (x.kind : Int)) := H10.out.2.1.cell 1
  have c2 : w10.cell? ⟨ex, 2, none⟩ = some (.int .i64 x.since) := H10.out.2.1.cell 2
  have c3 : w10.cell? ⟨ex, 3, none⟩ = some (.int .i64 x.til) := H10.out.2.1.cell 3
  have c4 : w10.cell? ⟨ex, 4, none⟩ = some (.int .i64 x.person) := H10.out.2.1.cell 4
  have c5 : w10.cell? ⟨ex, 5, none⟩ = some (.int .i64 x.place) := H10.out.2.1.cell 5
  have c6 : w10.cell? ⟨ex, 6, none⟩ = some (.int .i64 x.other) := H10.out.2.1.cell 6
  have c7 : w10.cell? ⟨ex, 7, none⟩ = some (.int .i64 x.at_) := H10.out.2.1.cell 7
  have c8 : w10.cell? ⟨ex, 8, none⟩ = some (.int .i64 x.order) := H10.out.2.1.cell 8
  have c9 : w10.cell? ⟨ex, 9, none⟩ = some (.string (bs x.name)) := H10.out.2.1.cell 9
  have e6 : eCells (Pe.cancelOf x) = #[.int .i64 x.day, .int .u8 6, .int .i64 0, .int .i64 0, .int .i64 0, .int .i64 0, .int .i64 0, .int .i64 0, .int .i64 x.order, .string ⟨#[]⟩] := rfl
  have hac := Append_calls B (n + 1) cB m (Pe.cancelOf x) w10 H10.out.2.2.2 HM.out.2.2.2.2.2.2 (cancel_ok H.out.2.2.2)
  rw [e6] at hac
  have HAC := Lib.hid hac
  clear hac e6
  go_wp2_with fail
  refine HAC.out.mono ?_
  rintro e w11 ⟨hb11, h11⟩
  have hck : (Pe.check (m ++ [Pe.cancelOf x])).2 = 0 := by
    have h1 := HM.out.2.2.2.2.2.1
    rw [HM.out.2.1]
    exact Pe.check_cancel h1 HM.out.2.2.1 HM.out.2.2.2.1 HK.out.1 (by have := H.out.1.len; have := HN.out; omega)
  rcases h11 with ⟨h11, _⟩ | ⟨_, h11, _⟩ | ⟨_, _, v, rfl, hown⟩
  · exact absurd (by rw [HM.out.2.1]; exact HM.out.2.2.2.2.2.1) h11
  · exact absurd hck h11
  obtain ⟨C2, d2c, rfl, hEn⟩ := own_ents hown (by have := HM.out.1.len; simp; omega) (fun z hz => by
    rcases List.mem_append.1 hz with hz | hz
    · exact HM.out.1.ok z hz
    · rw [List.mem_singleton.1 hz]; exact cancel_ok H.out.2.2.2)
  have H11 := Lib.hid (And.intro (H10.out.1.trans (hb11.mono H10.out.1.size)) (And.intro (H10.out.2.2.1.below hb11 H10.out.2.2.1.lt) hEn))
  clear c0 c1 c2 c3 c4 c5 c6 c7 c8 c9
  clear hb11 hck hown hEn
  dsimp only
  by_cases hd : d < 0
  · have d2 : decide (d < 0) = true := by simpa using hd
    clear hd
    go_wp2_with fail
    refine (alive_calls w11 (H.out.2.1.below H11.out.1)).mono ?_
    rintro e wy ⟨rfl, hby⟩
    have HY := Lib.hid (H11.out.1.trans (hby.mono H11.out.1.size))
    clear hby
    dsimp only
    go_wp2
    go_ret
    exact ⟨rfl, HY.out⟩
  have d2 : decide (d < 0) = false := by simpa using hd
  have ho1 := Order_calls C2 (n + 1 + 1) d2c (m ++ [Pe.cancelOf x]) (x.person, x.place) d w11 H11.out.2.2
  have ho2 := fun w0 (hb : Below w.heap.size w w0) => Order_calls A n c l (x.person, x.place) d w0 (H.out.1.below hb)
  rw [show Pe.order? (m ++ [Pe.cancelOf x]) (x.person, x.place) d = Pe.order? l (x.person, x.place) d by rw [HM.out.2.1]; exact Pe.order_left HM.out.2.2.2.1 HK.out.1 (by omega) _] at ho1
  obtain ⟨z, hz⟩ : ∃ z, z = (Pe.order? l (x.person, x.place) d).getD Pe.zero := ⟨_, rfl⟩
  obtain ⟨J, hJ⟩ : ∃ J, J = (Pe.order? l (x.person, x.place) d).isSome := ⟨_, rfl⟩
  rw [← hz, ← hJ] at ho1 ho2
  unfold pCells at ho1 ho2
  have HO := Lib.hid (And.intro ho1 ho2)
  clear ho1 ho2 hz hJ hd
  have k0 : w11.cell? ⟨cb, 0, none⟩ = some (.int .i64 x.person) := H11.out.2.1.cell 0
  have k1 : w11.cell? ⟨cb, 1, none⟩ = some (.int .i64 x.place) := H11.out.2.1.cell 1
  go_wp2_with fail
  refine HO.out.1.mono ?_
  rintro e w12 ⟨rfl, hb12⟩
  have H12 := Lib.hid (And.intro (H11.out.1.trans (hb12.mono H11.out.1.size)) (H11.out.2.1.below hb12 H11.out.2.1.lt))
  clear hb12 k0 k1
  unfold eCells
  dsimp only
  go_upto_region 17 with fail
  obtain ⟨zb, hg⟩ : ∃ g, g = w12.heap.size := ⟨_, rfl⟩
  obtain ⟨w13, hw⟩ : ∃ w0, w0 = w12.alloc (.cells #[.int .i64 z.day, .int .u8 (z.kind : Int), .int .i64 z.since, .int .i64 z.til, .int .i64 z.person, .int .i64 z.place, .int .i64 z.other, .int .i64 z.at_, .int .i64 z.order, .string (bs z.name)] 29) := ⟨_, rfl⟩
  have hbl : Below w12.heap.size w12 w13 := by rw [hw]; exact (Below.refl _ w12).alloc (Nat.le_refl _) _
  have hgb : Blk w13 zb 29 #[.int .i64 z.day, .int .u8 (z.kind : Int), .int .i64 z.since, .int .i64 z.til, .int .i64 z.person, .int .i64 z.place, .int .i64 z.other, .int .i64 z.at_, .int .i64 z.order, .string (bs z.name)] := by rw [hw, hg]; exact Blk.fresh _ _ _
  rw [← hg, ← hw]
  have H13 := Lib.hid (And.intro (H12.out.1.trans (hbl.mono H12.out.1.size)) (And.intro (H12.out.2.below hbl H12.out.2.lt) hgb))
  clear hbl hgb hg hw
  have k0 : w13.cell? ⟨cb, 0, none⟩ = some (.int .i64 x.person) := H13.out.2.1.cell 0
  have k1 : w13.cell? ⟨cb, 1, none⟩ = some (.int .i64 x.place) := H13.out.2.1.cell 1
  go_wp2_with fail
  refine (HO.out.2 w13 H13.out.1).mono ?_
  rintro e w14 ⟨rfl, hb14⟩
  have H14 := Lib.hid (And.intro (H13.out.1.trans (hb14.mono H13.out.1.size)) (H13.out.2.2.below hb14 H13.out.2.2.lt))
  clear hb14 k0 k1
  unfold eCells
  dsimp only
  go_upto_region 18 with fail
  obtain ⟨ob, hg⟩ : ∃ g, g = w14.heap.size := ⟨_, rfl⟩
  obtain ⟨w15, hw⟩ : ∃ w0, w0 = w14.alloc (.cells #[.int .i64 z.day, .int .u8 (z.kind : Int), .int .i64 z.since, .int .i64 z.til, .int .i64 z.person, .int .i64 z.place, .int .i64 z.other, .int .i64 z.at_, .int .i64 z.order, .string (bs z.name)] 29) := ⟨_, rfl⟩
  have hbl : Below w14.heap.size w14 w15 := by rw [hw]; exact (Below.refl _ w14).alloc (Nat.le_refl _) _
  have hgb : Blk w15 ob 29 #[.int .i64 z.day, .int .u8 (z.kind : Int), .int .i64 z.since, .int .i64 z.til, .int .i64 z.person, .int .i64 z.place, .int .i64 z.other, .int .i64 z.at_, .int .i64 z.order, .string (bs z.name)] := by rw [hw, hg]; exact Blk.fresh _ _ _
  rw [← hg, ← hw]
  have H15 := Lib.hid (And.intro (H14.out.1.trans (hbl.mono H14.out.1.size)) (And.intro (H14.out.2.below hbl H14.out.2.lt) hgb))
  clear hbl hgb hg hw
  go_wp2_with fail
  refine (alive_calls w15 (H.out.2.1.below H15.out.1)).mono ?_
  rintro e wy ⟨rfl, hby⟩
  have HYY := Lib.hid (And.intro (H15.out.1.trans (hby.mono H15.out.1.size)) (And.intro (H15.out.2.1.below hby H15.out.2.1.lt) (H15.out.2.2.below hby H15.out.2.2.lt)))
  clear hby
  dsimp only
  have c0 : wy.cell? ⟨zb, 0, none⟩ = some (.int .i64 z.day) := HYY.out.2.1.cell 0
  have c1 : wy.cell? ⟨zb, 1, none⟩ = some (.int .u8 (z.kind : Int)) := HYY.out.2.1.cell 1
  have c2 : wy.cell? ⟨zb, 2, none⟩ = some (.int .i64 z.since) := HYY.out.2.1.cell 2
  have c3 : wy.cell? ⟨zb, 3, none⟩ = some (.int .i64 z.til) := HYY.out.2.1.cell 3
  have c4 : wy.cell? ⟨zb, 4, none⟩ = some (.int .i64 z.person) := HYY.out.2.1.cell 4
  have c5 : wy.cell? ⟨zb, 5, none⟩ = some (.int .i64 z.place) := HYY.out.2.1.cell 5
  have c6 : wy.cell? ⟨zb, 6, none⟩ = some (.int .i64 z.other) := HYY.out.2.1.cell 6
  have c7 : wy.cell? ⟨zb, 7, none⟩ = some (.int .i64 z.at_) := HYY.out.2.1.cell 7
  have c8 : wy.cell? ⟨zb, 8, none⟩ = some (.int .i64 z.order) := HYY.out.2.1.cell 8
  have c9 : wy.cell? ⟨zb, 9, none⟩ = some (.string (bs z.name)) := HYY.out.2.1.cell 9
  have y0 : wy.cell? ⟨ob, 0, none⟩ = some (.int .i64 z.day) := HYY.out.2.2.cell 0
  have y1 : wy.cell? ⟨ob, 1, none⟩ = some (.int .u8 (z.kind : Int)) := HYY.out.2.2.cell 1
  have y2 : wy.cell? ⟨ob, 2, none⟩ = some (.int .i64 z.since) := HYY.out.2.2.cell 2
  have y3 : wy.cell? ⟨ob, 3, none⟩ = some (.int .i64 z.til) := HYY.out.2.2.cell 3
  have y4 : wy.cell? ⟨ob, 4, none⟩ = some (.int .i64 z.person) := HYY.out.2.2.cell 4
  have y5 : wy.cell? ⟨ob, 5, none⟩ = some (.int .i64 z.place) := HYY.out.2.2.cell 5
  have y6 : wy.cell? ⟨ob, 6, none⟩ = some (.int .i64 z.other) := HYY.out.2.2.cell 6
  have y7 : wy.cell? ⟨ob, 7, none⟩ = some (.int .i64 z.at_) := HYY.out.2.2.cell 7
  have y8 : wy.cell? ⟨ob, 8, none⟩ = some (.int .i64 z.order) := HYY.out.2.2.cell 8
  have y9 : wy.cell? ⟨ob, 9, none⟩ = some (.string (bs z.name)) := HYY.out.2.2.cell 9
  have heq : ∀ w0, (binOp .eql 29 (.agg (eCells z)) (.agg (eCells z))).run Tryz.prog w0 = .ok (.bool true) w0 := fun w0 => by
    have := eql_ent z z w0
    rw [show decide (z = z) = true by simp] at this
    exact this
  unfold eCells at heq
  go_wp2
  go_ret
  exact ⟨rfl, HYY.out.1⟩

end Go.Proofs.YtfalajomfcfliaaGreatDoor
