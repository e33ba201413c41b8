/-
  Follow returns what the reference returns: the law's walk.
-/
import Derived.Test.YtfalajomfcfliaaGreatDoorLw
import Derived.Test.YtfalajomfcfliaaGreatDoorRp7
import Derived.Test.YtfalajomfcfliaaGreatDoorHp
namespace Go.Proofs.YtfalajomfcfliaaGreatDoor
open Go.RowKit

theorem Pe.from_short {l : List Pe.Ent} {s d : Int} {c : Pe.Pair} : ∀ (k : Nat) (at_ : Pe.Pair) (hs : List Pe.Hop), (Pe.followFrom l s d k at_ hs).hops.length ≤ hs.length + k
  | 0, at_, hs => by simp [Pe.followFrom]
  | k + 1, at_, hs => by
    unfold Pe.followFrom
    repeat' split
    all_goals
      first
        | (have := Pe.from_short (l := l) (s := s) (d := d) (c := c) k (Pe.step l at_ d).1.to (hs ++ [(Pe.step l at_ d).1]); simp at this; omega)
        | (simp; omega)
        | simp
theorem Pe.follow_short {l : List Pe.Ent} {c : Pe.Pair} {s d : Int} {R : Pe.Route} {q : Int} (h : (R, q) = Pe.follow l c s d) : R.hops.length ≤ l.length + 2 := by
  unfold Pe.follow at h
  split at h
  · injection h with h1 _
    rw [h1]
    have := Pe.from_short (l := l) (s := s) (d := d) (c := c) (l.length + 2) c []
    simpa using this
  · injection h with h1 _
    rw [h1]; simp [Pe.noRoute]

set_option maxRecDepth 1000000 in
set_option maxHeartbeats 8000000 in
theorem follows_law (A : Option Addr) (n c : Nat) (l : List Pe.Ent) (cd : Pe.Pair) (s d : Int) (w : World) (h : EntsAt w A n l) (hL : Laid w) :
    Calls Tryz.prog 10 #[.slice A n c, .agg (pCells cd), .int .i64 s, .int .i64 d] w (Law w) := by
  have H := Lib.hid (And.intro h hL)
  clear h hL
  have hfe := fun w0 => Few_calls A n c w0
  have HFE := Lib.hid hfe
  clear hfe
  go_enter Tryz.func10, Tryz.ntmps10
  unfold pCells
  go_upto_region 1 with fail
  obtain ⟨b, hb⟩ : ∃ b, b = w.heap.size := ⟨_, rfl⟩
  obtain ⟨w1, hw1⟩ : ∃ w1, w1 = w.alloc (.cells (pCells cd) 40) := ⟨_, rfl⟩
  have hb1 : Below w.heap.size w w1 := by rw [hw1]; exact (Below.refl _ w).alloc (Nat.le_refl _) _
  have hc1 : Blk w1 b 40 (pCells cd) := by rw [hw1, hb]; exact Blk.fresh _ _ _
  unfold pCells at hw1
  rw [← hb, ← hw1]
  have H1 := Lib.hid (And.intro hb1 hc1)
  have k0 : w1.cell? ⟨b, 0, none⟩ = some (.int .i64 cd.1) := hc1.cell 0
  have k1 : w1.cell? ⟨b, 1, none⟩ = some (.int .i64 cd.2) := hc1.cell 1
  clear hb1 hc1 hw1 hb
  by_cases hfew : n ≤ 60
  case neg =>
    have d1 : decide (n ≤ 60) = false := by simpa using hfew
    have HD := Lib.hid d1
    clear d1 hfew
    go_wp2_with fail
    refine (HFE.out w1).mono ?_
    rintro e w2 ⟨rfl, rfl⟩
    rw [HD.out]
    dsimp only
    go_wp2_with fail
    refine (alive_calls w2 (H.out.2.below H1.out.1)).mono ?_
    rintro e wy ⟨rfl, hby⟩
    have HY := Lib.hid (H1.out.1.trans (hby.mono H1.out.1.size))
    clear hby
    dsimp only
    go_wp2
    go_ret
    exact ⟨rfl, HY.out⟩
  have d1 : decide (n ≤ 60) = true := by simpa using hfew
  have HD := Lib.hid (And.intro d1 hfew)
  clear d1 hfew
  go_wp2_with fail
  refine (HFE.out w1).mono ?_
  rintro e w2 ⟨rfl, rfl⟩
  rw [HD.out.1]
  dsimp only
  have hfc := Follow_calls A n c l cd s d w2 (H.out.1.below H1.out.1) (by have := HD.out.2; omega)
  have hrc := fun w0 (hb : Below w.heap.size w w0) => rFollow_calls A n c l cd s d w0 (H.out.1.below hb) (by have := HD.out.2; omega)
  obtain ⟨⟨R, q⟩, hR⟩ : ∃ z, z = Pe.follow l cd s d := ⟨_, rfl⟩
  rw [← hR] at hfc hrc
  have HQ := Lib.hid (Pe.follow_short hR)
  clear hR
  unfold pCells at hfc hrc
  have HFC := Lib.hid (And.intro hfc hrc)
  clear hfc hrc
  go_wp2_with fail
  refine HFC.out.1.mono ?_
  rintro e w3 ⟨⟨v, rfl, ho⟩, hb3⟩
  dsimp only at ho
  obtain ⟨nh, hnh⟩ : ∃ nh, nh = R.hops.length := ⟨_, rfl⟩
  rw [← hnh] at ho
  obtain ⟨A3, c3, rfl, hHA, _⟩ := own_hops ho hnh
  have H3 := Lib.hid (And.intro (H1.out.1.trans (hb3.mono H1.out.1.size)) (And.intro (H1.out.2.below hb3 H1.out.2.lt) hHA))
  have HN := Lib.hid hnh
  clear ho hb3 hHA hnh k0 k1
  unfold rCells
  dsimp only
  go_upto_region 4 with fail
  obtain ⟨g, hg⟩ : ∃ g, g = w3.heap.size := ⟨_, rfl⟩
  obtain ⟨w4, hw⟩ : ∃ w0, w0 = w3.alloc (.cells #[.int .u8 (R.kind : Int), .int .i64 R.fin.1, .int .i64 R.fin.2, .slice A3 nh c3, .int .i64 (R.back : Int)] 51) := ⟨_, rfl⟩
  have hbl : Below w3.heap.size w3 w4 := by rw [hw]; exact (Below.refl _ w3).alloc (Nat.le_refl _) _
  have hgb : Blk w4 g 51 #[.int .u8 (R.kind : Int), .int .i64 R.fin.1, .int .i64 R.fin.2, .slice A3 nh c3, .int .i64 (R.back : Int)] := by rw [hw, hg]; exact Blk.fresh _ _ _
  rw [← hg, ← hw]
  clear hg hw
  have H4 := Lib.hid (And.intro (H3.out.1.trans (hbl.mono H3.out.1.size)) (And.intro (H3.out.2.1.below hbl H3.out.2.1.lt) (And.intro (H3.out.2.2.below hbl) hgb)))
  clear hbl hgb
  have k0 : w4.cell? ⟨b, 0, none⟩ = some (.int .i64 cd.1) := H4.out.2.1.cell 0
  have k1 : w4.cell? ⟨b, 1, none⟩ = some (.int .i64 cd.2) := H4.out.2.1.cell 1
  go_wp2_with fail
  refine (HFC.out.2 w4 H4.out.1).mono ?_
  rintro e w5 ⟨⟨v, rfl, ho⟩, hb5⟩
  dsimp only at ho
  rw [← HN.out] at ho
  obtain ⟨A5, c5, rfl, hHA, _⟩ := own_hops ho HN.out
  have H5 := Lib.hid (And.intro (H4.out.1.trans (hb5.mono H4.out.1.size)) (And.intro (H4.out.2.2.1.below hb5) (And.intro (H4.out.2.2.2.below hb5 H4.out.2.2.2.lt) hHA)))
  clear ho hb5 hHA k0 k1
  unfold rCells
  dsimp only
  go_upto_region 5 with fail
  obtain ⟨g2, hg⟩ : ∃ g, g = w5.heap.size := ⟨_, rfl⟩
  obtain ⟨w6, hw⟩ : ∃ w0, w0 = w5.alloc (.cells #[.int .u8 (R.kind : Int), .int .i64 R.fin.1, .int .i64 R.fin.2, .slice A5 nh c5, .int .i64 (R.back : Int)] 51) := ⟨_, rfl⟩
  have hbl : Below w5.heap.size w5 w6 := by rw [hw]; exact (Below.refl _ w5).alloc (Nat.le_refl _) _
  have hgb : Blk w6 g2 51 #[.int .u8 (R.kind : Int), .int .i64 R.fin.1, .int .i64 R.fin.2, .slice A5 nh c5, .int .i64 (R.back : Int)] := by rw [hw, hg]; exact Blk.fresh _ _ _
  rw [← hg, ← hw]
  clear hg hw
  have H6 := Lib.hid (And.intro (H5.out.1.trans (hbl.mono H5.out.1.size)) (And.intro (H5.out.2.1.below hbl) (And.intro (H5.out.2.2.1.below hbl H5.out.2.2.1.lt) (And.intro (H5.out.2.2.2.below hbl) hgb))))
  clear hbl hgb
  go_wp2_with fail
  refine (alive_calls w6 (H.out.2.below H6.out.1)).mono ?_
  rintro e w7 ⟨rfl, hb7⟩
  have H7 := Lib.hid (And.intro (H6.out.1.trans (hb7.mono H6.out.1.size)) (And.intro (H6.out.2.1.below hb7) (And.intro (H6.out.2.2.1.below hb7 H6.out.2.2.1.lt) (And.intro (H6.out.2.2.2.1.below hb7) (H6.out.2.2.2.2.below hb7 H6.out.2.2.2.2.lt)))))
  clear hb7
  dsimp only
  have a0 : w7.cell? ⟨g, 0, none⟩ = some (.int .u8 (R.kind : Int)) := H7.out.2.2.1.cell 0
  have a1 : w7.cell? ⟨g, 1, none⟩ = some (.int .i64 R.fin.1) := H7.out.2.2.1.cell 1
  have a2 : w7.cell? ⟨g, 2, none⟩ = some (.int .i64 R.fin.2) := H7.out.2.2.1.cell 2
  have a3 : w7.cell? ⟨g, 3, none⟩ = some (.slice A3 nh c3) := H7.out.2.2.1.cell 3
  have a4 : w7.cell? ⟨g, 4, none⟩ = some (.int .i64 (R.back : Int)) := H7.out.2.2.1.cell 4
  have b0 : w7.cell? ⟨g2, 0, none⟩ = some (.int .u8 (R.kind : Int)) := H7.out.2.2.2.2.cell 0
  have b1 : w7.cell? ⟨g2, 1, none⟩ = some (.int .i64 R.fin.1) := H7.out.2.2.2.2.cell 1
  have b2 : w7.cell? ⟨g2, 2, none⟩ = some (.int .i64 R.fin.2) := H7.out.2.2.2.2.cell 2
  have b3 : w7.cell? ⟨g2, 3, none⟩ = some (.slice A5 nh c5) := H7.out.2.2.2.2.cell 3
  have b4 : w7.cell? ⟨g2, 4, none⟩ = some (.int .i64 (R.back : Int)) := H7.out.2.2.2.2.cell 4
  have hlen : nh ≤ 1000000 := by have h1 := HQ.out; have h2 := HN.out; have h3 := HD.out.2; have h4 := H.out.1.len; omega
  have hsc := rSameRoute_calls A3 A5 nh c3 nh c5 R R w7 H7.out.2.1 H7.out.2.2.2.1 hlen
  rw [show decide (R = R) = true by simp] at hsc
  unfold rCells at hsc
  have HSC := Lib.hid hsc
  clear hsc hlen
  go_wp2_with fail
  refine HSC.out.mono ?_
  rintro e w8 ⟨rfl, hb8⟩
  have H8 := Lib.hid (H7.out.1.trans (hb8.mono H7.out.1.size))
  clear hb8
  dsimp only
  go_wp2
  go_ret
  exact ⟨rfl, H8.out⟩

end Go.Proofs.YtfalajomfcfliaaGreatDoor
