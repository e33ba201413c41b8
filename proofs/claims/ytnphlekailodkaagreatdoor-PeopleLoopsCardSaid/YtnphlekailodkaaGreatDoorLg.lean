/-
  The reference's Loops, walked. Loops returns what the reference returns: the law's walk.
-/
import Derived.Test.YtnphlekailodkaaGreatDoorRl
import Derived.Test.YtnphlekailodkaaGreatDoorLz
import Derived.Test.YtnphlekailodkaaGreatDoorDw
namespace Go.Proofs.YtnphlekailodkaaGreatDoor
open Go.RowKit

set_option maxRecDepth 1000000 in
set_option maxHeartbeats 8000000 in
theorem rLoops_calls (A : Option Addr) (n c : Nat) (l : List Pe.Ent) (d : Int) (w : World) (h : EntsAt w A n l) (hn : n ≤ 100000) :
    Calls Tryz.prog 38 #[.slice A n c, .int .i64 d] w fun e w' => ∃ v, e = .returned (.tuple #[v, .int .i64 (Pe.loops l d).2]) ∧ CircsAt w' w.heap.size (Pe.loops l d).1 v ∧ Below w.heap.size w w' := by
  obtain ⟨i0, hi0, hz0, hz1, hz2⟩ := info_parts infoCandsN
  have HI0 := Lib.hid (And.intro hi0 (And.intro hz0 (And.intro hz1 hz2)))
  have H := Lib.hid h
  have hmost := h.most
  obtain ⟨V, hV⟩ : ∃ V, V = Pe.loops l d := ⟨_, rfl⟩
  rw [← hV]
  unfold Pe.loops at hV
  clear hi0 hz0 hz1 hz2 h
  go_enter Tryz.func38, Tryz.ntmps38
  by_cases d0 : d < 0
  · have d1 : decide (d < 0) = true := by simpa using d0
    have HV := Lib.hid (show V = ([], 1) by rw [hV, if_pos d0])
    clear hV d0
    go_wp2
    go_ret2
    exact ⟨.slice none 0 0, by rw [HV.out]; rfl, by rw [HV.out]; exact CircsAt.nil _ _, Below.refl _ _⟩
  have d1 : decide (d < 0) = false := by simpa using d0
  rw [if_neg d0] at hV
  by_cases d2 : 100000 < d
  · have d3 : decide (100000 < d) = true := by simpa using d2
    have HV := Lib.hid (show V = ([], 1) by rw [hV, if_pos d2])
    clear hV d0 d2
    go_wp2
    go_ret2
    exact ⟨.slice none 0 0, by rw [HV.out]; rfl, by rw [HV.out]; exact CircsAt.nil _ _, Below.refl _ _⟩
  have d3 : decide (100000 < d) = false := by simpa using d2
  have HV := Lib.hid (show V = (Pe.circsOf l d (Pe.allR l d l), 0) by rw [hV, if_neg d2]; rfl)
  clear hV d0 d2
  go_wp2_with fail
  go_loopg [6, 7] n (fun q s6 s7 wr => ∃ (i n' : Nat) (o : List Pe.Pair) (A' : Option Addr) (c' : Nat), s6 = .slice A' n' c' ∧ s7 = .int .i64 (i : Int) ∧ i + q = n ∧ n' ≤ i ∧ Hid (Below w.heap.size w wr ∧ wr.ownsRow w.heap.size 28 2 (.slice A' n' c') n' (pRow o) ∧ n' = o.length ∧ o = Pe.allR l d (l.take i)))
  case atStart => exact ⟨0, 0, [], none, 0, rfl, rfl, by omega, by omega, Lib.hid ⟨Below.refl _ _, World.ownsRow_nil _ _ _ _, rfl, rfl⟩⟩
  case round =>
    obtain ⟨i, n', o, A', c', rfl, rfl, hi, hn', hR⟩ := hrel
    have hE := Lib.hid (H.out.below hR.out.1)
    by_cases hgo : i < n
    case pos =>
      have hd1 : decide ((i : Int) < (n : Int)) = true := by simp; omega
      obtain ⟨x, ad, hx, rfl, hok, hcw⟩ := hE.out.one hgo
      have g0 : wr.cell? (ad.add (i * 10)) = some (.int .i64 x.day) := hcw 0 _ rfl
      have g1 : wr.cell? ⟨(ad.add (i * 10)).block, (ad.add (i * 10)).off + 1, none⟩ = some (.int .u8 (x.kind : Int)) := hcw 1 _ rfl
      have g2 : wr.cell? ⟨(ad.add (i * 10)).block, (ad.add (i * 10)).off + 2, none⟩ = some (.int .i64 x.since) := hcw 2 _ rfl
      have g3 : wr.cell? ⟨(ad.add (i * 10)).block, (ad.add (i * 10)).off + 3, none⟩ = some (.int .i64 x.til) := hcw 3 _ rfl
      have g4 : wr.cell? ⟨(ad.add (i * 10)).block, (ad.add (i * 10)).off + 4, none⟩ = some (.int .i64 x.person) := hcw 4 _ rfl
      have g5 : wr.cell? ⟨(ad.add (i * 10)).block, (ad.add (i * 10)).off + 5, none⟩ = some (.int .i64 x.place) := hcw 5 _ rfl
      have g6 : wr.cell? ⟨(ad.add (i * 10)).block, (ad.add (i * 10)).off + 6, none⟩ = some (.int .i64 x.other) := hcw 6 _ rfl
      have g7 : wr.cell? ⟨(ad.add (i * 10)).block, (ad.add (i * 10)).off + 7, none⟩ = some (.int .i64 x.at_) := hcw 7 _ rfl
      have g8 : wr.cell? ⟨(ad.add (i * 10)).block, (ad.add (i * 10)).off + 8, none⟩ = some (.int .i64 x.order) := hcw 8 _ rfl
      have g9 : wr.cell? ⟨(ad.add (i * 10)).block, (ad.add (i * 10)).off + 9, none⟩ = some (.string (bs x.name)) := hcw 9 _ rfl
      have HX := Lib.hid hx
      clear hx hcw hok
      have k5 := nat_beq x.kind 5
      have k4 := nat_beq x.kind 4
      by_cases h5 : x.kind = 5
      · have q5 : ((x.kind : Int) == 5) = true := k5.trans (by rw [h5]; rfl)
        have q4 : ((x.kind : Int) == 4) = false := k4.trans (by rw [h5]; rfl)
        have HT0 := Pe.tgt_order (l := l) (d := d) h5
        clear k5 k4 h5
        have htc := rtarget_calls (some ad) n c l x d wr hE.out
        obtain ⟨⟨T, B⟩, hTT⟩ : ∃ z, z = Pe.target l x d := ⟨_, rfl⟩
        rw [← hTT] at htc HT0
        dsimp only at htc HT0
        unfold eCells pCells at htc
        have HTC := Lib.hid htc
        have HT := Lib.hid HT0
        clear htc HT0 hTT
        go_wp2_with fail
        refine HTC.out.mono ?_
        rintro e w2 ⟨rfl, hb2⟩
        dsimp only
        go_upto_region 9 with fail
        obtain ⟨tb, htb⟩ : ∃ g, g = w2.heap.size := ⟨_, rfl⟩
        obtain ⟨w3, hw3⟩ : ∃ w0, w0 = w2.alloc (.cells (pCells T) 28) := ⟨_, rfl⟩
        have hbl : Below w2.heap.size w2 w3 := by rw [hw3]; exact (Below.refl _ w2).alloc (Nat.le_refl _) _
        have htk : Blk w3 tb 28 (pCells T) := by rw [hw3, htb]; exact Blk.fresh _ _ _
        unfold pCells at hw3
        rw [← htb, ← hw3]
        have hb3 := hb2.trans (hbl.mono hb2.size)
        have hc3 := (hE.out.below hb3).get HX.out
        have H3 := Lib.hid (And.intro (hR.out.1.trans (hb3.mono hR.out.1.size)) (And.intro (own_below hR.out.2.1 hb3) (And.intro htk hc3)))
        clear hbl htk htb hw3 hb2 hb3
        clear g0 g1 g2 g3 g4 g5 g6 g7 g8 g9
        have t0 : w3.cell? ⟨tb, 0, none⟩ = some (.int .i64 T.1) := H3.out.2.2.1.cell 0
        have t1 : w3.cell? ⟨tb, 1, none⟩ = some (.int .i64 T.2) := H3.out.2.2.1.cell 1
        have g0 : w3.cell? (ad.add (i * 10)) = some (.int .i64 x.day) := hc3 0 _ rfl
        have g1 : w3.cell? ⟨(ad.add (i * 10)).block, (ad.add (i * 10)).off + 1, none⟩ = some (.int .u8 (x.kind : Int)) := hc3 1 _ rfl
        have g2 : w3.cell? ⟨(ad.add (i * 10)).block, (ad.add (i * 10)).off + 2, none⟩ = some (.int .i64 x.since) := hc3 2 _ rfl
        have g3 : w3.cell? ⟨(ad.add (i * 10)).block, (ad.add (i * 10)).off + 3, none⟩ = some (.int .i64 x.til) := hc3 3 _ rfl
        have g4 : w3.cell? ⟨(ad.add (i * 10)).block, (ad.add (i * 10)).off + 4, none⟩ = some (.int .i64 x.person) := hc3 4 _ rfl
        have g5 : w3.cell? ⟨(ad.add (i * 10)).block, (ad.add (i * 10)).off + 5, none⟩ = some (.int .i64 x.place) := hc3 5 _ rfl
        have g6 : w3.cell? ⟨(ad.add (i * 10)).block, (ad.add (i * 10)).off + 6, none⟩ = some (.int .i64 x.other) := hc3 6 _ rfl
        have g7 : w3.cell? ⟨(ad.add (i * 10)).block, (ad.add (i * 10)).off + 7, none⟩ = some (.int .i64 x.at_) := hc3 7 _ rfl
        have g8 : w3.cell? ⟨(ad.add (i * 10)).block, (ad.add (i * 10)).off + 8, none⟩ = some (.int .i64 x.order) := hc3 8 _ rfl
        have g9 : w3.cell? ⟨(ad.add (i * 10)).block, (ad.add (i * 10)).off + 9, none⟩ = some (.string (bs x.name)) := hc3 9 _ rfl
        clear hc3
        cases B
        · go_wp2
          go_roundg (gk - 1)
          case measure => omega
          case rel => exact ⟨i + 1, n', o, A', c', rfl, by go_num, by omega, by omega, Lib.hid ⟨H3.out.1, H3.out.2.1, hR.out.2.2.1, by rw [Pe.allR_on HX.out (by rw [HT.out]; rfl)]; exact hR.out.2.2.2⟩⟩
        obtain ⟨A2, c2, hv2, hPA, _⟩ := own_pairsAt H3.out.2.1 hR.out.2.2.1
        obtain ⟨rfl, rfl⟩ : A' = A2 ∧ c' = c2 := by injection hv2 with h1 _ h3; exact ⟨h1, h3⟩
        have hac := raddedPair_calls A' n' c' o T w3 hPA (by omega)
        unfold pCells at hac
        have HAC := Lib.hid hac
        clear hac hPA hv2
        go_wp2_with fail
        refine HAC.out.mono ?_
        rintro e w4 ⟨v, rfl, hown, hb4⟩
        have hle : (Pe.insP T o).length ≤ n' + 1 := by have := Pe.insP_length T o; have := hR.out.2.2.1; omega
        obtain ⟨n3, hn3⟩ : ∃ n3, n3 = (Pe.insP T o).length := ⟨_, rfl⟩
        rw [← hn3] at hown hle
        obtain ⟨A3, c3, rfl, _, _⟩ := own_shape hown
        have hc4 := (H.out.below (H3.out.1.trans (hb4.mono H3.out.1.size))).get HX.out
        have H4 := Lib.hid (And.intro (H3.out.1.trans (hb4.mono H3.out.1.size)) (And.intro (own_weaken hown H3.out.1.size) hn3))
        clear hb4 hown hn3 t0 t1
        clear g0 g1 g2 g3 g4 g5 g6 g7 g8 g9
        have g0 : w4.cell? (ad.add (i * 10)) = some (.int .i64 x.day) := hc4 0 _ rfl
        have g1 : w4.cell? ⟨(ad.add (i * 10)).block, (ad.add (i * 10)).off + 1, none⟩ = some (.int .u8 (x.kind : Int)) := hc4 1 _ rfl
        have g2 : w4.cell? ⟨(ad.add (i * 10)).block, (ad.add (i * 10)).off + 2, none⟩ = some (.int .i64 x.since) := hc4 2 _ rfl
        have g3 : w4.cell? ⟨(ad.add (i * 10)).block, (ad.add (i * 10)).off + 3, none⟩ = some (.int .i64 x.til) := hc4 3 _ rfl
        have g4 : w4.cell? ⟨(ad.add (i * 10)).block, (ad.add (i * 10)).off + 4, none⟩ = some (.int .i64 x.person) := hc4 4 _ rfl
        have g5 : w4.cell? ⟨(ad.add (i * 10)).block, (ad.add (i * 10)).off + 5, none⟩ = some (.int .i64 x.place) := hc4 5 _ rfl
        have g6 : w4.cell? ⟨(ad.add (i * 10)).block, (ad.add (i * 10)).off + 6, none⟩ = some (.int .i64 x.other) := hc4 6 _ rfl
        have g7 : w4.cell? ⟨(ad.add (i * 10)).block, (ad.add (i * 10)).off + 7, none⟩ = some (.int .i64 x.at_) := hc4 7 _ rfl
        have g8 : w4.cell? ⟨(ad.add (i * 10)).block, (ad.add (i * 10)).off + 8, none⟩ = some (.int .i64 x.order) := hc4 8 _ rfl
        have g9 : w4.cell? ⟨(ad.add (i * 10)).block, (ad.add (i * 10)).off + 9, none⟩ = some (.string (bs x.name)) := hc4 9 _ rfl
        clear hc4
        dsimp only
        go_wp2
        go_roundg (gk - 1)
        case measure => omega
        case rel => exact ⟨i + 1, n3, Pe.insP T o, A3, c3, rfl, by go_num, by omega, by omega, Lib.hid ⟨H4.out.1, H4.out.2.1, H4.out.2.2, by rw [Pe.allR_put HX.out (by rw [HT.out]; rfl), ← hR.out.2.2.2]⟩⟩
      by_cases h4 : x.kind = 4
      · have q5 : ((x.kind : Int) == 5) = false := k5.trans (by rw [h4]; rfl)
        have q4 : ((x.kind : Int) == 4) = true := k4.trans (by rw [h4]; rfl)
        have HT0 := Pe.tgt_heir (l := l) (d := d) h4
        clear k5 k4 h5 h4
        have htc := rReached_calls (some ad) n c l x.other d wr hE.out
        obtain ⟨⟨T, B⟩, hTT⟩ : ∃ z, z = Pe.reached l x.other d := ⟨_, rfl⟩
        rw [← hTT] at htc HT0
        dsimp only at htc HT0
        unfold pCells at htc
        have HTC := Lib.hid htc
        have HT := Lib.hid HT0
        clear htc HT0 hTT
        go_wp2_with fail
        refine HTC.out.mono ?_
        rintro e w2 ⟨rfl, hb2⟩
        dsimp only
        go_upto_region 13 with fail
        obtain ⟨tb, htb⟩ : ∃ g, g = w2.heap.size := ⟨_, rfl⟩
        obtain ⟨w3, hw3⟩ : ∃ w0, w0 = w2.alloc (.cells (pCells T) 28) := ⟨_, rfl⟩
        have hbl : Below w2.heap.size w2 w3 := by rw [hw3]; exact (Below.refl _ w2).alloc (Nat.le_refl _) _
        have htk : Blk w3 tb 28 (pCells T) := by rw [hw3, htb]; exact Blk.fresh _ _ _
        unfold pCells at hw3
        rw [← htb, ← hw3]
        have hb3 := hb2.trans (hbl.mono hb2.size)
        have hc3 := (hE.out.below hb3).get HX.out
        have H3 := Lib.hid (And.intro (hR.out.1.trans (hb3.mono hR.out.1.size)) (And.intro (own_below hR.out.2.1 hb3) (And.intro htk hc3)))
        clear hbl htk htb hw3 hb2 hb3
        clear g0 g1 g2 g3 g4 g5 g6 g7 g8 g9
        have t0 : w3.cell? ⟨tb, 0, none⟩ = some (.int .i64 T.1) := H3.out.2.2.1.cell 0
        have t1 : w3.cell? ⟨tb, 1, none⟩ = some (.int .i64 T.2) := H3.out.2.2.1.cell 1
        have g0 : w3.cell? (ad.add (i * 10)) = some (.int .i64 x.day) := hc3 0 _ rfl
        have g1 : w3.cell? ⟨(ad.add (i * 10)).block, (ad.add (i * 10)).off + 1, none⟩ = some (.int .u8 (x.kind : Int)) := hc3 1 _ rfl
        have g2 : w3.cell? ⟨(ad.add (i * 10)).block, (ad.add (i * 10)).off + 2, none⟩ = some (.int .i64 x.since) := hc3 2 _ rfl
        have g3 : w3.cell? ⟨(ad.add (i * 10)).block, (ad.add (i * 10)).off + 3, none⟩ = some (.int .i64 x.til) := hc3 3 _ rfl
        have g4 : w3.cell? ⟨(ad.add (i * 10)).block, (ad.add (i * 10)).off + 4, none⟩ = some (.int .i64 x.person) := hc3 4 _ rfl
        have g5 : w3.cell? ⟨(ad.add (i * 10)).block, (ad.add (i * 10)).off + 5, none⟩ = some (.int .i64 x.place) := hc3 5 _ rfl
        have g6 : w3.cell? ⟨(ad.add (i * 10)).block, (ad.add (i * 10)).off + 6, none⟩ = some (.int .i64 x.other) := hc3 6 _ rfl
        have g7 : w3.cell? ⟨(ad.add (i * 10)).block, (ad.add (i * 10)).off + 7, none⟩ = some (.int .i64 x.at_) := hc3 7 _ rfl
        have g8 : w3.cell? ⟨(ad.add (i * 10)).block, (ad.add (i * 10)).off + 8, none⟩ = some (.int .i64 x.order) := hc3 8 _ rfl
        have g9 : w3.cell? ⟨(ad.add (i * 10)).block, (ad.add (i * 10)).off + 9, none⟩ = some (.string (bs x.name)) := hc3 9 _ rfl
        clear hc3
        cases B
        · go_wp2
          go_roundg (gk - 1)
          case measure => omega
          case rel => exact ⟨i + 1, n', o, A', c', rfl, by go_num, by omega, by omega, Lib.hid ⟨H3.out.1, H3.out.2.1, hR.out.2.2.1, by rw [Pe.allR_on HX.out (by rw [HT.out]; rfl)]; exact hR.out.2.2.2⟩⟩
        obtain ⟨A2, c2, hv2, hPA, _⟩ := own_pairsAt H3.out.2.1 hR.out.2.2.1
        obtain ⟨rfl, rfl⟩ : A' = A2 ∧ c' = c2 := by injection hv2 with h1 _ h3; exact ⟨h1, h3⟩
        have hac := raddedPair_calls A' n' c' o T w3 hPA (by omega)
        unfold pCells at hac
        have HAC := Lib.hid hac
        clear hac hPA hv2
        go_wp2_with fail
        refine HAC.out.mono ?_
        rintro e w4 ⟨v, rfl, hown, hb4⟩
        have hle : (Pe.insP T o).length ≤ n' + 1 := by have := Pe.insP_length T o; have := hR.out.2.2.1; omega
        obtain ⟨n3, hn3⟩ : ∃ n3, n3 = (Pe.insP T o).length := ⟨_, rfl⟩
        rw [← hn3] at hown hle
        obtain ⟨A3, c3, rfl, _, _⟩ := own_shape hown
        have hc4 := (H.out.below (H3.out.1.trans (hb4.mono H3.out.1.size))).get HX.out
        have H4 := Lib.hid (And.intro (H3.out.1.trans (hb4.mono H3.out.1.size)) (And.intro (own_weaken hown H3.out.1.size) hn3))
        clear hb4 hown hn3 t0 t1
        clear g0 g1 g2 g3 g4 g5 g6 g7 g8 g9
        have g0 : w4.cell? (ad.add (i * 10)) = some (.int .i64 x.day) := hc4 0 _ rfl
        have g1 : w4.cell? ⟨(ad.add (i * 10)).block, (ad.add (i * 10)).off + 1, none⟩ = some (.int .u8 (x.kind : Int)) := hc4 1 _ rfl
        have g2 : w4.cell? ⟨(ad.add (i * 10)).block, (ad.add (i * 10)).off + 2, none⟩ = some (.int .i64 x.since) := hc4 2 _ rfl
        have g3 : w4.cell? ⟨(ad.add (i * 10)).block, (ad.add (i * 10)).off + 3, none⟩ = some (.int .i64 x.til) := hc4 3 _ rfl
        have g4 : w4.cell? ⟨(ad.add (i * 10)).block, (ad.add (i * 10)).off + 4, none⟩ = some (.int .i64 x.person) := hc4 4 _ rfl
        have g5 : w4.cell? ⟨(ad.add (i * 10)).block, (ad.add (i * 10)).off + 5, none⟩ = some (.int .i64 x.place) := hc4 5 _ rfl
        have g6 : w4.cell? ⟨(ad.add (i * 10)).block, (ad.add (i * 10)).off + 6, none⟩ = some (.int .i64 x.other) := hc4 6 _ rfl
        have g7 : w4.cell? ⟨(ad.add (i * 10)).block, (ad.add (i * 10)).off + 7, none⟩ = some (.int .i64 x.at_) := hc4 7 _ rfl
        have g8 : w4.cell? ⟨(ad.add (i * 10)).block, (ad.add (i * 10)).off + 8, none⟩ = some (.int .i64 x.order) := hc4 8 _ rfl
        have g9 : w4.cell? ⟨(ad.add (i * 10)).block, (ad.add (i * 10)).off + 9, none⟩ = some (.string (bs x.name)) := hc4 9 _ rfl
        clear hc4
        dsimp only
        go_wp2
        go_roundg (gk - 1)
        case measure => omega
        case rel => exact ⟨i + 1, n3, Pe.insP T o, A3, c3, rfl, by go_num, by omega, by omega, Lib.hid ⟨H4.out.1, H4.out.2.1, H4.out.2.2, by rw [Pe.allR_put HX.out (by rw [HT.out]; rfl), ← hR.out.2.2.2]⟩⟩
      have q5 : ((x.kind : Int) == 5) = false := k5.trans (by simpa using h5)
      have q4 : ((x.kind : Int) == 4) = false := k4.trans (by simpa using h4)
      have HT := Lib.hid (Pe.tgt_none (l := l) (d := d) h5 h4)
      clear k5 k4 h5 h4
      go_wp2
      go_roundg (gk - 1)
      case measure => omega
      case rel => exact ⟨i + 1, n', o, A', c', rfl, by go_num, by omega, by omega, Lib.hid ⟨hR.out.1, hR.out.2.1, hR.out.2.2.1, by rw [Pe.allR_on HX.out HT.out]; exact hR.out.2.2.2⟩⟩
    have hd1 : decide ((i : Int) < (n : Int)) = false := by simp; omega
    have HO := Lib.hid (show o = Pe.allR l d l by
      have h1 := hR.out.2.2.2
      rwa [List.take_of_length_le (by have := H.out.len; omega)] at h1)
    have hnn : n' ≤ 100000 := by omega
    go_wp2_with fail
    go_loopg [12, 13] n' (fun q s12 s13 wr => ∃ (j m' : Nat) (vs : List Value) (A2 : Option Addr) (c2 : Nat), s12 = .slice A2 m' c2 ∧ s13 = .int .i64 (j : Int) ∧ j + q = n' ∧ m' ≤ j ∧ Hid (Below w.heap.size w wr ∧ wr.ownsRow w.heap.size 28 2 (.slice A' n' c') n' (pRow o) ∧ wr.ownsRow w.heap.size 46 1 (.slice A2 m' c2) m' vs ∧ RowsAt wr w.heap.size (Pe.circsOf l d (o.take j)) vs ∧ m' = (Pe.circsOf l d (o.take j)).length))
    case atStart => exact ⟨0, 0, [], none, 0, rfl, rfl, by omega, by omega, Lib.hid ⟨hR.out.1, hR.out.2.1, World.ownsRow_nil _ _ _ _, RowsAt.nil _ _, rfl⟩⟩
    case round =>
      clear hn'
      obtain ⟨j, m', vs, A2, c2, rfl, rfl, hj, hm', hS⟩ := hrel
      by_cases hgo2 : j < n'
      case neg =>
        have hd2 : decide ((j : Int) < (n' : Int)) = false := by simp; omega
        go_wp2
        go_ret2
        have h1 := hS.out.2.2.2
        rw [List.take_of_length_le (by have := hR.out.2.2.1; omega), HO.out] at h1
        refine ⟨_, by rw [HV.out]; rfl, ?_, hS.out.1⟩
        rw [HV.out]
        refine ⟨vs, ?_, h1.1⟩
        show World.ownsRow _ _ _ _ _ (Pe.circsOf l d (Pe.allR l d l)).length _
        rw [← h1.2]
        exact hS.out.2.2.1
      have hd2 : decide ((j : Int) < (n' : Int)) = true := by simp; omega
      obtain ⟨A3, c3, hv3, hPA, _⟩ := own_pairsAt hS.out.2.1 hR.out.2.2.1
      obtain ⟨rfl, rfl⟩ : A' = A3 ∧ c' = c3 := by injection hv3 with h1 _ h3; exact ⟨h1, h3⟩
      obtain ⟨y, ad, hy, rfl, hcy⟩ := hPA.one hgo2
      have p0 : wr.cell? (ad.add (j * 2)) = some (.int .i64 y.1) := hcy 0 _ rfl
      have p1 : wr.cell? ⟨(ad.add (j * 2)).block, (ad.add (j * 2)).off + 1, none⟩ = some (.int .i64 y.2) := hcy 1 _ rfl
      have hcc := rcircle_calls A n c l y d wr (H.out.below hS.out.1) hn
      obtain ⟨⟨C, B⟩, hCB⟩ : ∃ z, z = Pe.circleR l y d := ⟨_, rfl⟩
      rw [← hCB] at hcc
      have hst : Pe.circsOf l d (o.take (j + 1)) = Pe.circsOf l d (o.take j) ++ (if B = true then [C] else []) := by
        rw [Pe.take_gp hy, Pe.circsOf_snoc, ← hCB]
      dsimp only at hcc
      unfold pCells at hcc
      have HCC := Lib.hid hcc
      have HST := Lib.hid hst
      clear hcc hst hCB hPA hv3 hy hcy
      go_wp2_with fail
      refine HCC.out.mono ?_
      rintro e w5 ⟨v, rfl, hown, hb5⟩
      obtain ⟨vA, vc, rfl, _, _⟩ := own_shape hown
      obtain ⟨vn, hvn⟩ : ∃ vn, vn = C.length := ⟨_, rfl⟩
      rw [← hvn] at hown ⊢
      have HVN := Lib.hid hvn
      clear hvn
      have H5 := Lib.hid (And.intro (hS.out.1.trans (hb5.mono hS.out.1.size)) (And.intro (own_below hS.out.2.1 hb5) (And.intro (own_below hS.out.2.2.1 hb5) (And.intro (hS.out.2.2.2.1.below hb5) (own_weaken hown hS.out.1.size)))))
      clear hb5 hown p0 p1
      dsimp only
      cases B
      · go_wp2
        go_roundg (gk - 1)
        case measure => omega
        case rel =>
          refine ⟨j + 1, m', vs, A2, c2, rfl, by go_num, by omega, by omega, Lib.hid ⟨H5.out.1, H5.out.2.1, H5.out.2.2.1, ?_, ?_⟩⟩
          · rw [HST.out]; simpa using H5.out.2.2.2.1
          · rw [HST.out]; simpa using hS.out.2.2.2.2
      · have hwl : w.heap.size ≤ w5.heap.size := H5.out.1.size
        go_wp2_with (at_builtin; refine wpList_append_lies _ rfl _ _ 50 rfl w.heap.size 46 i0 _ 1 24 Tryz.underlying50 HI0.out.1 HI0.out.2.1 HI0.out.2.2.1 HI0.out.2.2.2 (by rfl) (by decide) (.slice A2 m' c2) m' vs rfl (own_below H5.out.2.2.1 ((Below.refl _ w5).alloc (Nat.le_refl _) _)) ⟨w5.heap.size, 0, none⟩ 1 1 [.slice vA vn vc] rfl rfl (World.news_of_block (cs := #[.slice vA vn vc]) (t := 46) (fr := (0, 0)) (heap_alloc_new w5 _)) ?o1 (by decide) ?o2 ?o3 ?o4 _ rfl ?_)
        case o1 => simp [Value.oneCell']
        case o2 => simp only [maxLen]; omega
        case o3 => omega
        case o4 => (try simp); omega
        intro gn cn W2 hown hgr _ hlt
        have hba : Below w5.heap.size w5 (w5.alloc (.cells #[.slice vA vn vc] 46)) := (Below.refl _ w5).alloc (Nat.le_refl _) _
        have hOA := own_below H5.out.2.2.1 hba
        have HA := Lib.hid (And.intro ((H5.out.1.alloc H5.out.1.size _).grown hgr (H5.out.1.alloc H5.out.1.size _).size (fun z hz => (H5.out.2.2.1.lt z hz).1)) (And.intro (own_keeps (own_below H5.out.2.1 hba) hOA hgr) (And.intro hown (And.intro ((H5.out.2.2.2.1.below hba).grown hOA hgr) (own_keeps (own_below H5.out.2.2.2.2 hba) hOA hgr)))))
        clear hown hgr hlt hba hOA
        go_wp2
        go_roundg (gk - 1)
        case measure => omega
        case rel =>
          refine ⟨j + 1, m' + 1, vs ++ [.slice vA vn vc], some ⟨gn, 0, none⟩, cn, rfl, by go_num, by omega, by omega, Lib.hid ⟨HA.out.1, HA.out.2.1, HA.out.2.2.1, ?_, ?_⟩⟩
          · rw [HST.out]; exact HA.out.2.2.2.1.snoc (by rw [← HVN.out]; exact HA.out.2.2.2.2)
          · rw [HST.out]; simp; exact hS.out.2.2.2.2

end Go.Proofs.YtnphlekailodkaaGreatDoor

namespace Go.Proofs.YtnphlekailodkaaGreatDoor
open Go.RowKit

set_option linter.unusedSimpArgs false in
set_option maxRecDepth 1000000 in
set_option maxHeartbeats 16000000 in
theorem loops_law (A : Option Addr) (n c : Nat) (l : List Pe.Ent) (d : Int) (w : World) (h : EntsAt w A n l) (hL : Laid w) :
    Calls Tryz.prog 8 #[.slice A n c, .int .i64 d] w (Law w) := by
  have H := Lib.hid (And.intro h hL)
  clear h hL
  have hfe := fun w0 => Few_calls A n c w0
  have HFE := Lib.hid hfe
  clear hfe
  go_enter Tryz.func8, Tryz.ntmps8
  by_cases hfew : n ≤ 60
  case neg =>
    have d1 : decide (n ≤ 60) = false := by simpa using hfew
    have HD := Lib.hid d1
    clear d1 hfew
    go_wp2_with fail
    refine (HFE.out w).mono ?_
    rintro e w2 ⟨rfl, rfl⟩
    rw [HD.out]
    dsimp only
    go_wp2_with fail
    refine (alive_calls w2 H.out.2).mono ?_
    rintro e wy ⟨rfl, hby⟩
    have HY := Lib.hid hby
    clear hby
    dsimp only
    go_wp2
    go_ret
    exact ⟨rfl, HY.out⟩
  have d1 : decide (n ≤ 60) = true := by simpa using hfew
  have HD := Lib.hid d1
  have hn : n ≤ 100000 := by omega
  clear d1
  obtain ⟨⟨LL, E⟩, hLE⟩ : ∃ z, z = Pe.loops l d := ⟨_, rfl⟩
  have hlc := fun w0 (hb : Below w.heap.size w w0) => Loops_calls A n c l d w0 (H.out.1.below hb) (by omega)
  have hrc := fun w0 (hb : Below w.heap.size w w0) => rLoops_calls A n c l d w0 (H.out.1.below hb) hn
  rw [← hLE] at hlc hrc
  dsimp only at hlc hrc
  have hLl : ∀ x ∈ LL, x.length ≤ 1000000 := fun x hx => by
    have h1 : x ∈ (Pe.loops l d).1 := by rw [← hLE]; exact hx
    unfold Pe.loops at h1
    split at h1
    · cases h1
    · split at h1
      · cases h1
      · have := Pe.circ_length ((Pe.mem_loopsR l d x).1 h1).1
        have := H.out.1.len
        omega
  have hLm : LL.length ≤ 100000 := by
    have h1 : LL = (Pe.loops l d).1 := by rw [← hLE]
    rw [h1]
    unfold Pe.loops
    split
    · simp
    · split
      · simp
      · have h2 := Pe.circsOf_length l d (Pe.allR l d l)
        have h3 := Pe.allR_length l d l
        have h4 := H.out.1.len
        show (Pe.circsOf l d (Pe.allR l d l)).length ≤ _
        omega
  have HLC := Lib.hid hlc
  have HRC := Lib.hid hrc
  have HLL := Lib.hid hLl
  clear hlc hrc hLE hLl
  go_wp2_with fail
  refine (HFE.out w).mono ?_
  rintro e w2 ⟨rfl, rfl⟩
  rw [HD.out]
  dsimp only
  go_wp2_with fail
  refine (HLC.out w2 (Below.refl _ w2)).mono ?_
  rintro e w3 ⟨v3, rfl, hv3, hb3⟩
  obtain ⟨A3, c3, rfl, hr3⟩ := hv3.rows
  have H3 := Lib.hid (And.intro hb3 hr3)
  clear hb3 hr3 hv3
  dsimp only
  go_wp2_with fail
  refine (HRC.out w3 H3.out.1).mono ?_
  rintro e w4 ⟨v4, rfl, hv4, hb4⟩
  obtain ⟨A4, c4, rfl, hr4⟩ := hv4.rows
  have H4 := Lib.hid (And.intro (H3.out.1.trans (hb4.mono H3.out.1.size)) (And.intro (H3.out.2.below hb4) hr4))
  clear hb4 hr4 hv4
  obtain ⟨m, hm⟩ : ∃ m, m = LL.length := ⟨_, rfl⟩
  rw [← hm] at H4 hLm ⊢
  have HM := Lib.hid hm
  clear hm
  have hE : (E != E) = false := by simp
  have hmm : ((m : Int) != (m : Int)) = false := by simp
  dsimp only
  go_wp2_with fail
  go_loopg [38] m (fun q s38 wr => ∃ i : Nat, s38 = .int .i64 (i : Int) ∧ i + q = m ∧ Hid (Below w2.heap.size w2 wr ∧ RowssAt wr A3 m LL ∧ RowssAt wr A4 m LL))
  case atStart => exact ⟨0, by go_num, by omega, H4⟩
  case round =>
    obtain ⟨i, rfl, hi, hR⟩ := hrel
    by_cases hgo : i < m
    case neg =>
      have hd1 : decide ((i : Int) < (m : Int)) = false := by simp; omega
      go_wp2_with fail
      refine (alive_calls wr (H.out.2.below hR.out.1)).mono ?_
      rintro e wy ⟨rfl, hby⟩
      have HY := Lib.hid (hR.out.1.trans (hby.mono hR.out.1.size))
      clear hby
      dsimp only
      go_wp2
      go_ret
      exact ⟨rfl, HY.out⟩
    have hd1 : decide ((i : Int) < (m : Int)) = true := by simp; omega
    obtain ⟨x, hx⟩ : ∃ x, LL[i]? = some x := ⟨_, List.getElem?_eq_getElem (by have := HM.out; omega)⟩
    obtain ⟨ad3, B3, k3, rfl, _, hc3, _, hp3⟩ := hR.out.2.1.one i x hx
    obtain ⟨ad4, B4, k4, rfl, _, hc4, _, hp4⟩ := hR.out.2.2.one i x hx
    have hsp := fun w0 (h1 : PairsAt w0 B3 x.length x) (h2 : PairsAt w0 B4 x.length x) => rSamePairs_calls B3 B4 x.length k3 x.length k4 x x w0 h1 h2 (HLL.out x (List.mem_of_getElem? hx))
    obtain ⟨xl, hxl⟩ : ∃ xl, xl = x.length := ⟨_, rfl⟩
    rw [← hxl] at hsp hc3 hc4 hp3 hp4
    have HSP := Lib.hid hsp
    have HP := Lib.hid (And.intro hp3 (And.intro hp4 (And.intro hc3 hc4)))
    clear hsp hp3 hp4 hx hxl
    go_upto_region 10 with fail
    go_cut [50] (fun s50 wx => s50 = .bool false ∧ Hid (Below wr.heap.size wr wx))
    case first =>
      refine wp_region_R (RL [(3, fun w' => w'.cell? (ad3.add i) = some (.slice B3 xl k3)), (7, fun w' => w'.cell? (ad4.add i) = some (.slice B4 xl k4))]) (by kernel_rfl) (RL_cons hc3 (RL_cons hc4 (RL_nil _))) (fun hp => ?_)
      have hS3 : wr.drew.cell? (ad3.add i) = some (.slice B3 xl k3) := HP.out.2.2.1
      have hS7 : wr.drew.cell? (ad4.add i) = some (.slice B4 xl k4) := HP.out.2.2.2
      refine wpAnyR_take (i := 0) (oi := ⟨some 41, _, _, _, _, _⟩) (v := ?_) rfl (by kernel_rfl) (by kernel_rfl) (by kernel_rfl) (fun _ _ _ h => h) hp (.inl ⟨by rfl, fun w _ => ?_⟩) (fun hq => ?_)
      rotate_left
      · go_simp
        with_reducible rfl
      clear hp; have hp := hq; clear hq
      try simp only [Act.put, List.setIfInBounds_toArray, List.set_cons_zero, List.set_cons_succ]
      refine wpAnyR_take (i := 1) (oi := ⟨some 42, _, _, _, _, _⟩) (v := ?_) rfl (by kernel_rfl) (by kernel_rfl) (by kernel_rfl) (fun _ _ _ h => h) hp (.inl ⟨by rfl, fun w _ => ?_⟩) (fun hq => ?_)
      rotate_left
      · go_simp
        with_reducible rfl
      clear hp; have hp := hq; clear hq
      try simp only [Act.put, List.setIfInBounds_toArray, List.set_cons_zero, List.set_cons_succ]
      refine wpAnyR_take (i := 2) (oi := ⟨some 43, _, _, _, _, _⟩) (v := ?_) rfl (by kernel_rfl) (by kernel_rfl) (by kernel_rfl) (fun _ _ _ h => h) hp (.inl ⟨by rfl, fun w _ => ?_⟩) (fun hq => ?_)
      rotate_left
      · go_simp
        with_reducible rfl
      clear hp; have hp := hq; clear hq
      try simp only [Act.put, List.setIfInBounds_toArray, List.set_cons_zero, List.set_cons_succ]
      refine wpAnyR_take (i := 3) (oi := ⟨some 44, _, _, _, _, _⟩) (v := ?_) rfl (by kernel_rfl) (by kernel_rfl) (by kernel_rfl) (fun _ _ _ h => h) hp (.inl ⟨by rfl, fun w hR => ?_⟩) (fun hq => ?_)
      rotate_left
      · have hR := hR.1 rfl
        (try dsimp only at hR)
        go_simp
        with_reducible rfl
      clear hp; have hp := hq; clear hq
      try simp only [Act.put, List.setIfInBounds_toArray, List.set_cons_zero, List.set_cons_succ]
      refine wpAnyR_take (i := 4) (oi := ⟨some 45, _, _, _, _, _⟩) (v := ?_) rfl (by kernel_rfl) (by kernel_rfl) (by kernel_rfl) (fun _ _ _ h => h) hp (.inl ⟨by rfl, fun w _ => ?_⟩) (fun hq => ?_)
      rotate_left
      · go_simp
        with_reducible rfl
      clear hp; have hp := hq; clear hq
      try simp only [Act.put, List.setIfInBounds_toArray, List.set_cons_zero, List.set_cons_succ]
      refine wpAnyR_take (i := 5) (oi := ⟨some 46, _, _, _, _, _⟩) (v := ?_) rfl (by kernel_rfl) (by kernel_rfl) (by kernel_rfl) (fun _ _ _ h => h) hp (.inl ⟨by rfl, fun w _ => ?_⟩) (fun hq => ?_)
      rotate_left
      · go_simp
        with_reducible rfl
      clear hp; have hp := hq; clear hq
      try simp only [Act.put, List.setIfInBounds_toArray, List.set_cons_zero, List.set_cons_succ]
      refine wpAnyR_take (i := 6) (oi := ⟨some 47, _, _, _, _, _⟩) (v := ?_) rfl (by kernel_rfl) (by kernel_rfl) (by kernel_rfl) (fun _ _ _ h => h) hp (.inl ⟨by rfl, fun w _ => ?_⟩) (fun hq => ?_)
      rotate_left
      · go_simp
        with_reducible rfl
      clear hp; have hp := hq; clear hq
      try simp only [Act.put, List.setIfInBounds_toArray, List.set_cons_zero, List.set_cons_succ]
      refine wpAnyR_take (i := 7) (oi := ⟨some 48, _, _, _, _, _⟩) (v := ?_) rfl (by kernel_rfl) (by kernel_rfl) (by kernel_rfl) (fun _ _ _ h => h) hp (.inl ⟨by rfl, fun w hR => ?_⟩) (fun hq => ?_)
      rotate_left
      · have hR := hR.2.1 rfl
        (try dsimp only at hR)
        go_simp
        with_reducible rfl
      clear hp; have hp := hq; clear hq
      try simp only [Act.put, List.setIfInBounds_toArray, List.set_cons_zero, List.set_cons_succ]
      refine wpAnyR_step (i := 8) (o := ⟨some 49, _, _, _, _, _⟩) (by kernel_rfl) rfl (by rfl) (fun K hK => ?_) -- Op.call { callee := Callee.value (Operand.func 29), args := #[Operand.tmp 44, Operand.tmp 48], argTypes := #[4
      go_simp
      refine (HSP.out _ (HP.out.1.below (Below.refl _ wr).drew) (HP.out.2.1.below (Below.refl _ wr).drew)).mono ?_
      rintro e w6 ⟨rfl, hb6⟩
      show K _ _
      have H6 := Lib.hid hb6
      clear hb6
      refine hK _ _ (pend_off (by kernel_rfl) (pend_off (by kernel_rfl) pend_nil)) (fun hq => ?_)
      clear hp hK K; have hp := hq; clear hq
      try simp only [Act.put, List.setIfInBounds_toArray, List.set_cons_zero, List.set_cons_succ]
      refine wpAnyR_take (i := 9) (oi := ⟨some 50, _, _, _, _, _⟩) (v := ?_) rfl (by kernel_rfl) (by kernel_rfl) (by kernel_rfl) (fun _ _ _ h => h) hp (.inl ⟨by rfl, fun w _ => ?_⟩) (fun hq => ?_)
      rotate_left
      · go_simp
        with_reducible rfl
      clear hp; have hp := hq; clear hq
      try simp only [Act.put, List.setIfInBounds_toArray, List.set_cons_zero, List.set_cons_succ]
      refine wpAnyR_done (by kernel_rfl) ?_ _
      clear hp
      all_goals
        go_wp2
        go_meet
        exact ⟨by simp, Lib.hid ((Below.refl _ wr).drew.trans (H6.out.mono (Nat.le_refl _)))⟩
    case rest =>
    obtain ⟨rfl, H7⟩ := hcut
    apply_assumption
    clear hc3 hc4
    go_wp2
    go_roundg (gk - 1)
    case measure => omega
    case rel => exact ⟨i + 1, by go_num, by omega, Lib.hid ⟨hR.out.1.trans (H7.out.mono hR.out.1.size), hR.out.2.1.below H7.out, hR.out.2.2.below H7.out⟩⟩

end Go.Proofs.YtnphlekailodkaaGreatDoor
