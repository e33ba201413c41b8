/-
  Lives, Places, Dwellers and Pairs agree; the dead live nowhere: the law's walk.
-/
import Derived.Test.YtnphlekailodkaaGreatDoorAg
namespace Go.Proofs.YtnphlekailodkaaGreatDoor
open Go.RowKit

theorem any_step {l : List Int} {i : Nat} {y : Int} {p : Int → Bool} (h : l[i]? = some y) : (l.take (i + 1)).any p = ((l.take i).any p || p y) := by
  rw [List.take_add_one, h, List.any_append]
  simp
theorem any_stepP {l : List Pe.Pair} {i : Nat} {y : Pe.Pair} {p : Pe.Pair → Bool} (h : l[i]? = some y) : (l.take (i + 1)).any p = ((l.take i).any p || p y) := by
  rw [List.take_add_one, h, List.any_append]
  simp

set_option maxRecDepth 1000000 in
set_option maxHeartbeats 16000000 in
theorem agree_law (A : Option Addr) (n c : Nat) (l : List Pe.Ent) (cd : Pe.Pair) (d : Int) (w : World) (h : EntsAt w A n l) (hL : Laid w) :
    Calls Tryz.prog 7 #[.slice A n c, .agg (pCells cd), .int .i64 d] w (Law w) := by
  have H := Lib.hid (And.intro h hL)
  have hln := h.len
  clear h hL
  have hfe := fun w0 => Few_calls A n c w0
  have HFE := Lib.hid hfe
  clear hfe
  go_enter Tryz.func7, Tryz.ntmps7
  unfold pCells
  go_upto_region 1 with fail
  obtain ⟨b, hb⟩ : ∃ b, b = w.heap.size := ⟨_, rfl⟩
  obtain ⟨w1, hw1⟩ : ∃ w1, w1 = w.alloc (.cells (pCells cd) 28) := ⟨_, rfl⟩
  have hb1 : Below w.heap.size w w1 := by rw [hw1]; exact (Below.refl _ w).alloc (Nat.le_refl _) _
  have hc1 : Blk w1 b 28 (pCells cd) := by rw [hw1, hb]; exact Blk.fresh _ _ _
  unfold pCells at hw1
  rw [← hb, ← hw1]
  have H1 := Lib.hid (And.intro hb1 hc1)
  have HLN := Lib.hid hln
  clear hb1 hc1 hw1 hb hln
  by_cases hfew : n ≤ 60
  case neg =>
    have d1 : decide (n ≤ 60) = false := by simpa using hfew
    have HD := Lib.hid d1
    clear d1 hfew
    go_wp2_with fail
    refine (HFE.out w1).mono ?_
    rintro e w2 ⟨rfl, rfl⟩
    rw [HD.out]
    dsimp only
    go_wp2_with fail
    refine (alive_calls w2 (H.out.2.below H1.out.1)).mono ?_
    rintro e wy ⟨rfl, hby⟩
    have HY := Lib.hid (H1.out.1.trans (hby.mono H1.out.1.size))
    clear hby
    dsimp only
    go_wp2
    go_ret
    exact ⟨rfl, HY.out⟩
  have d1 : decide (n ≤ 60) = true := by simpa using hfew
  have HD := Lib.hid d1
  have hn : n ≤ 100000 := by omega
  clear d1
  have hli := fun x w0 (hb : Below w.heap.size w w0) => Lives_calls A n c l x d w0 (H.out.1.below hb) hn
  have hde := fun p w0 (hb : Below w.heap.size w w0) => Dead_calls A n c l p d w0 (H.out.1.below hb)
  have hho := fun w0 (hb : Below w.heap.size w w0) => Home_calls A n c l cd.1 d w0 (H.out.1.below hb)
  have hpl := fun w0 (hb : Below w.heap.size w w0) => Places_calls A n c l cd.1 d w0 (H.out.1.below hb) hn
  have hdw := fun w0 (hb : Below w.heap.size w w0) => Dwellers_calls A n c l cd.2 d w0 (H.out.1.below hb) hn
  have hpa := fun w0 (hb : Below w.heap.size w w0) => Pairs_calls A n c l d w0 (H.out.1.below hb) hn
  unfold pCells at hli
  have HLI := Lib.hid hli
  have HC := Lib.hid (And.intro hde (And.intro hho (And.intro hpl (And.intro hdw hpa))))
  clear hli hde hho hpl hdw hpa
  obtain ⟨LV, hLV⟩ : ∃ LV, LV = Pe.lives l cd d := ⟨_, rfl⟩
  have HLV := Lib.hid hLV
  clear hLV
  have k0 : w1.cell? ⟨b, 0, none⟩ = some (.int .i64 cd.1) := H1.out.2.cell 0
  have k1 : w1.cell? ⟨b, 1, none⟩ = some (.int .i64 cd.2) := H1.out.2.cell 1
  go_wp2_with fail
  refine (HFE.out w1).mono ?_
  rintro e w2 ⟨rfl, rfl⟩
  rw [HD.out]
  dsimp only
  go_wp2_with fail
  refine (HLI.out cd w2 H1.out.1).mono ?_
  rintro e w3 ⟨rfl, hb3⟩
  rw [← HLV.out]
  have H3 := Lib.hid (And.intro (H1.out.1.trans (hb3.mono H1.out.1.size)) (H1.out.2.below hb3 H1.out.2.lt))
  clear hb3 k0 k1
  have k0 : w3.cell? ⟨b, 0, none⟩ = some (.int .i64 cd.1) := H3.out.2.cell 0
  have k1 : w3.cell? ⟨b, 1, none⟩ = some (.int .i64 cd.2) := H3.out.2.cell 1
  dsimp only
  go_wp2_with fail
  refine (HC.out.2.2.1 w3 H3.out.1).mono ?_
  rintro e w4 ⟨v, rfl, hown, hb4⟩
  obtain ⟨pl, hpl⟩ : ∃ pl, pl = Pe.places l cd.1 d := ⟨_, rfl⟩
  rw [← hpl] at hown
  obtain ⟨np, hnp⟩ : ∃ np, np = pl.length := ⟨_, rfl⟩
  rw [← hnp] at hown
  obtain ⟨A4, c4, rfl, hN4⟩ := own_nums hown hnp
  have hnp6 : np ≤ 1000000 := by
    have h1 := Pe.pairs_length l d
    have h2 := HLN.out
    rw [hnp, hpl]
    unfold Pe.places
    rw [List.length_map]
    exact Nat.le_trans (List.length_filter_le _ _) (by omega)
  have H4 := Lib.hid (And.intro (H3.out.1.trans (hb4.mono H3.out.1.size)) (And.intro (H3.out.2.below hb4 H3.out.2.lt) hN4))
  have HPL := Lib.hid (And.intro hpl hnp)
  clear hb4 hown hN4 hpl hnp k0 k1
  dsimp only
  go_wp2_with fail
  go_loopg [8, 33] np (fun q s8 s33 wr => ∃ (i : Nat) (acc : Bool), s8 = .bool acc ∧ s33 = .int .i64 (i : Int) ∧ i + q = np ∧ Hid (Below w.heap.size w wr ∧ Blk wr b 28 (pCells cd) ∧ NumsAt wr A4 np pl ∧ acc = (pl.take i).any fun z => z == cd.2))
  case atStart => exact ⟨0, false, rfl, by go_num, by omega, Lib.hid ⟨H4.out.1, H4.out.2.1, H4.out.2.2, by simp⟩⟩
  case round =>
    obtain ⟨i, acc, rfl, rfl, hi, hR⟩ := hrel
    by_cases hgo : i < np
    case pos =>
      have hd1 : decide ((i : Int) < (np : Int)) = true := by simp; omega
      obtain ⟨y, ad, hy, e9, hcy⟩ := hR.out.2.2.1.one hgo
      subst e9
      have k0 : wr.cell? ⟨b, 0, none⟩ = some (.int .i64 cd.1) := hR.out.2.1.cell 0
      have k1 : wr.cell? ⟨b, 1, none⟩ = some (.int .i64 cd.2) := hR.out.2.1.cell 1
      have HYY := Lib.hid hy
      clear hy
      obtain ⟨E, hE⟩ : ∃ E, E = (y == cd.2) := ⟨_, rfl⟩
      have hE2 := hE.symm
      have HE := Lib.hid hE
      clear hE
      cases acc
      · go_wp2
        go_roundg (gk - 1)
        case measure => omega
        case rel => exact ⟨i + 1, E, by first | rfl | (rw [HE.out]), by go_num, by omega, Lib.hid ⟨hR.out.1, hR.out.2.1, hR.out.2.2.1, by rw [any_step HYY.out, ← hR.out.2.2.2, HE.out]; rfl⟩⟩
      · go_wp2
        go_roundg (gk - 1)
        case measure => omega
        case rel => exact ⟨i + 1, true, rfl, by go_num, by omega, Lib.hid ⟨hR.out.1, hR.out.2.1, hR.out.2.2.1, by rw [any_step HYY.out, ← hR.out.2.2.2]; rfl⟩⟩
    have hd1 : decide ((i : Int) < (np : Int)) = false := by simp; omega
    obtain rfl : LV = acc := by
      rw [hR.out.2.2.2, List.take_of_length_le (by have := HPL.out.2; omega), HPL.out.1, HLV.out]
      exact (Pe.any_places l cd d).symm
    have H5 := Lib.hid (And.intro hR.out.1 hR.out.2.1)
    clear hR hi
    have k0 : wr.cell? ⟨b, 0, none⟩ = some (.int .i64 cd.1) := H5.out.2.cell 0
    have k1 : wr.cell? ⟨b, 1, none⟩ = some (.int .i64 cd.2) := H5.out.2.cell 1
    go_wp2_with fail
    refine (HC.out.2.2.2.1 wr H5.out.1).mono ?_
    rintro e w6 ⟨v, rfl, hown, hb6⟩
    obtain ⟨dl, hdl⟩ : ∃ dl, dl = Pe.dwellers l cd.2 d := ⟨_, rfl⟩
    rw [← hdl] at hown
    obtain ⟨nd, hnd⟩ : ∃ nd, nd = dl.length := ⟨_, rfl⟩
    rw [← hnd] at hown
    obtain ⟨A6, c6, rfl, hN6⟩ := own_nums hown hnd
    have hnd6 : nd ≤ 1000000 := by
      have h1 := Pe.pairs_length l d
      have h2 := HLN.out
      rw [hnd, hdl]
      unfold Pe.dwellers
      rw [List.length_map]
      exact Nat.le_trans (List.length_filter_le _ _) (by omega)
    have H6 := Lib.hid (And.intro (H5.out.1.trans (hb6.mono H5.out.1.size)) (And.intro (H5.out.2.below hb6 H5.out.2.lt) hN6))
    have HDL := Lib.hid (And.intro hdl hnd)
    clear hb6 hown hN6 hdl hnd k0 k1
    dsimp only
    go_wp2_with fail
    go_loopg [9, 51] nd (fun q s9 s51 wr => ∃ (i : Nat) (acc : Bool), s9 = .bool acc ∧ s51 = .int .i64 (i : Int) ∧ i + q = nd ∧ Hid (Below w.heap.size w wr ∧ Blk wr b 28 (pCells cd) ∧ NumsAt wr A6 nd dl ∧ acc = (dl.take i).any fun z => z == cd.1))
    case atStart => exact ⟨0, false, rfl, by go_num, by omega, Lib.hid ⟨H6.out.1, H6.out.2.1, H6.out.2.2, by simp⟩⟩
    case round =>
      obtain ⟨i, acc, rfl, rfl, hi, hR⟩ := hrel
      by_cases hgo : i < nd
      case pos =>
        have hd1 : decide ((i : Int) < (nd : Int)) = true := by simp; omega
        obtain ⟨y, ad, hy, e9, hcy⟩ := hR.out.2.2.1.one hgo
        subst e9
        have k0 : wr.cell? ⟨b, 0, none⟩ = some (.int .i64 cd.1) := hR.out.2.1.cell 0
        have k1 : wr.cell? ⟨b, 1, none⟩ = some (.int .i64 cd.2) := hR.out.2.1.cell 1
        have HYY := Lib.hid hy
        clear hy
        obtain ⟨E, hE⟩ : ∃ E, E = (y == cd.1) := ⟨_, rfl⟩
        have hE2 := hE.symm
        have HE := Lib.hid hE
        clear hE
        cases acc
        · go_wp2
          go_roundg (gk - 1)
          case measure => omega
          case rel => exact ⟨i + 1, E, by first | rfl | (rw [HE.out]), by go_num, by omega, Lib.hid ⟨hR.out.1, hR.out.2.1, hR.out.2.2.1, by rw [any_step HYY.out, ← hR.out.2.2.2, HE.out]; rfl⟩⟩
        · go_wp2
          go_roundg (gk - 1)
          case measure => omega
          case rel => exact ⟨i + 1, true, rfl, by go_num, by omega, Lib.hid ⟨hR.out.1, hR.out.2.1, hR.out.2.2.1, by rw [any_step HYY.out, ← hR.out.2.2.2]; rfl⟩⟩
      have hd1 : decide ((i : Int) < (nd : Int)) = false := by simp; omega
      obtain rfl : LV = acc := by
        rw [hR.out.2.2.2, List.take_of_length_le (by have := HDL.out.2; omega), HDL.out.1, HLV.out]
        exact (Pe.any_dwellers l cd d).symm
      have H7 := Lib.hid (And.intro hR.out.1 hR.out.2.1)
      clear hR hi
      go_wp2_with fail
      refine (HC.out.2.2.2.2 wr H7.out.1).mono ?_
      rintro e w8 ⟨v, rfl, hown, hb8⟩
      have hplen := Pe.pairs_length l d
      obtain ⟨ps, hps⟩ : ∃ ps, ps = Pe.pairs l d := ⟨_, rfl⟩
      rw [← hps] at hown hplen
      obtain ⟨m, hm⟩ : ∃ m, m = ps.length := ⟨_, rfl⟩
      rw [← hm] at hown hplen
      obtain ⟨A8, c8, rfl, hP8, _⟩ := own_pairsAt hown hm
      have hm6 : m ≤ 1000000 := by have h2 := HLN.out; omega
      have H8 := Lib.hid (And.intro (H7.out.1.trans (hb8.mono H7.out.1.size)) (And.intro (H7.out.2.below hb8 H7.out.2.lt) hP8))
      have HPS := Lib.hid (And.intro hps hm)
      clear hb8 hown hP8 hps hm hplen
      dsimp only
      go_wp2_with fail
      go_loopg [10, 67] m (fun q s10 s67 wr => ∃ (i : Nat) (acc : Bool), s10 = .bool acc ∧ s67 = .int .i64 (i : Int) ∧ i + q = m ∧ Hid (Below w.heap.size w wr ∧ Blk wr b 28 (pCells cd) ∧ PairsAt wr A8 m ps ∧ acc = (ps.take i).any fun z => decide (z = cd)))
      case atStart => exact ⟨0, false, rfl, by go_num, by omega, Lib.hid ⟨H8.out.1, H8.out.2.1, H8.out.2.2, by simp⟩⟩
      case round =>
        obtain ⟨i, acc, rfl, rfl, hi, hR⟩ := hrel
        by_cases hgo : i < m
        case pos =>
          have hd1 : decide ((i : Int) < (m : Int)) = true := by simp; omega
          obtain ⟨x, ad, hx, e9, hcx⟩ := hR.out.2.2.1.one hgo
          subst e9
          have p0 : wr.cell? (ad.add (i * 2)) = some (.int .i64 x.1) := hcx 0 _ rfl
          have p1 : wr.cell? ⟨(ad.add (i * 2)).block, (ad.add (i * 2)).off + 1, none⟩ = some (.int .i64 x.2) := hcx 1 _ rfl
          have HX := Lib.hid hx
          have hxl := Pe.pair_lives (l := l) (x := x) (d := d) (by rw [← HPS.out.1]; exact List.mem_of_getElem? hx)
          have HXL := Lib.hid hxl
          clear hx hcx hxl
          go_upto_region 18 with fail
          obtain ⟨xb, hg⟩ : ∃ g, g = wr.heap.size := ⟨_, rfl⟩
          obtain ⟨w9, hw⟩ : ∃ w0, w0 = wr.alloc (.cells #[.int .i64 x.1, .int .i64 x.2] 28) := ⟨_, rfl⟩
          have hbl : Below wr.heap.size wr w9 := by rw [hw]; exact (Below.refl _ wr).alloc (Nat.le_refl _) _
          have hgb : Blk w9 xb 28 #[.int .i64 x.1, .int .i64 x.2] := by rw [hw, hg]; exact Blk.fresh _ _ _
          rw [← hg, ← hw]
          have H9 := Lib.hid (And.intro (hR.out.1.trans (hbl.mono hR.out.1.size)) (And.intro (hR.out.2.1.below hbl hR.out.2.1.lt) (And.intro (hR.out.2.2.1.below hbl) hgb)))
          clear hbl hgb hg hw p0 p1
          have x0 : w9.cell? ⟨xb, 0, none⟩ = some (.int .i64 x.1) := H9.out.2.2.2.cell 0
          have x1 : w9.cell? ⟨xb, 1, none⟩ = some (.int .i64 x.2) := H9.out.2.2.2.cell 1
          have k0 : w9.cell? ⟨b, 0, none⟩ = some (.int .i64 cd.1) := H9.out.2.1.cell 0
          have k1 : w9.cell? ⟨b, 1, none⟩ = some (.int .i64 cd.2) := H9.out.2.1.cell 1
          obtain ⟨E, hE⟩ : ∃ E, E = decide (x = cd) := ⟨_, rfl⟩
          have heq : ∀ w0, (binOp .eql 28 (.agg #[.int .i64 x.1, .int .i64 x.2]) (.agg #[.int .i64 cd.1, .int .i64 cd.2])).run Tryz.prog w0 = .ok (.bool E) w0 := fun w0 => by rw [hE]; exact eql_pair x cd w0
          obtain ⟨N, hN⟩ : ∃ N, N = (acc || E) := ⟨_, rfl⟩
          have HN := Lib.hid (show N = (ps.take (i + 1)).any fun z => decide (z = cd) by rw [any_stepP HX.out, ← hR.out.2.2.2, hN, hE])
          have hN2 := Lib.hid hN
          clear hE hN
          cases acc
          · go_wp2_with fail
            refine (HLI.out x w9 H9.out.1).mono ?_
            rintro e wa ⟨rfl, hba⟩
            rw [HXL.out.1]
            have Ha := Lib.hid (And.intro (H9.out.1.trans (hba.mono H9.out.1.size)) (And.intro (H9.out.2.1.below hba H9.out.2.1.lt) (And.intro (H9.out.2.2.1.below hba) (H9.out.2.2.2.below hba H9.out.2.2.2.lt))))
            clear hba x0 x1 k0 k1
            have x0 : wa.cell? ⟨xb, 0, none⟩ = some (.int .i64 x.1) := Ha.out.2.2.2.cell 0
            have x1 : wa.cell? ⟨xb, 1, none⟩ = some (.int .i64 x.2) := Ha.out.2.2.2.cell 1
            dsimp only
            go_wp2_with fail
            refine (HC.out.1 x.1 wa Ha.out.1).mono ?_
            rintro e wb ⟨rfl, hbb⟩
            rw [HXL.out.2]
            have Hb := Lib.hid (And.intro (Ha.out.1.trans (hbb.mono Ha.out.1.size)) (And.intro (Ha.out.2.1.below hbb Ha.out.2.1.lt) (Ha.out.2.2.1.below hbb)))
            clear hbb x0 x1
            dsimp only
            go_wp2
            go_roundg (gk - 1)
            case measure => omega
            case rel => exact ⟨i + 1, E, rfl, by go_num, by omega, Lib.hid ⟨Hb.out.1, Hb.out.2.1, Hb.out.2.2, by rw [← HN.out, hN2.out]; rfl⟩⟩
          · go_wp2_with fail
            refine (HLI.out x w9 H9.out.1).mono ?_
            rintro e wa ⟨rfl, hba⟩
            rw [HXL.out.1]
            have Ha := Lib.hid (And.intro (H9.out.1.trans (hba.mono H9.out.1.size)) (And.intro (H9.out.2.1.below hba H9.out.2.1.lt) (And.intro (H9.out.2.2.1.below hba) (H9.out.2.2.2.below hba H9.out.2.2.2.lt))))
            clear hba x0 x1 k0 k1
            have x0 : wa.cell? ⟨xb, 0, none⟩ = some (.int .i64 x.1) := Ha.out.2.2.2.cell 0
            have x1 : wa.cell? ⟨xb, 1, none⟩ = some (.int .i64 x.2) := Ha.out.2.2.2.cell 1
            dsimp only
            go_wp2_with fail
            refine (HC.out.1 x.1 wa Ha.out.1).mono ?_
            rintro e wb ⟨rfl, hbb⟩
            rw [HXL.out.2]
            have Hb := Lib.hid (And.intro (Ha.out.1.trans (hbb.mono Ha.out.1.size)) (And.intro (Ha.out.2.1.below hbb Ha.out.2.1.lt) (Ha.out.2.2.1.below hbb)))
            clear hbb x0 x1
            dsimp only
            go_wp2
            go_roundg (gk - 1)
            case measure => omega
            case rel => exact ⟨i + 1, true, rfl, by go_num, by omega, Lib.hid ⟨Hb.out.1, Hb.out.2.1, Hb.out.2.2, by rw [← HN.out, hN2.out]; rfl⟩⟩
        have hd1 : decide ((i : Int) < (m : Int)) = false := by simp; omega
        obtain rfl : LV = acc := by
          rw [hR.out.2.2.2, List.take_of_length_le (by have := HPS.out.2; omega), HPS.out.1, HLV.out]
          exact (Pe.any_pairs l cd d).symm
        have H9 := Lib.hid (And.intro hR.out.1 hR.out.2.1)
        clear hR hi
        have k0 : wr.cell? ⟨b, 0, none⟩ = some (.int .i64 cd.1) := H9.out.2.cell 0
        have k1 : wr.cell? ⟨b, 1, none⟩ = some (.int .i64 cd.2) := H9.out.2.cell 1
        obtain ⟨hv, hhv⟩ : ∃ hv, hv = Pe.home? l cd.1 d := ⟨_, rfl⟩
        have hho := HC.out.2.1 wr H9.out.1
        rw [← hhv] at hho
        have HHO := Lib.hid hho
        have HHV := Lib.hid hhv
        clear hho hhv
        go_wp2_with fail
        refine HHO.out.mono ?_
        rintro e wa ⟨rfl, hba⟩
        have Ha := Lib.hid (And.intro (H9.out.1.trans (hba.mono H9.out.1.size)) (H9.out.2.below hba H9.out.2.lt))
        clear hba k0 k1
        have k0 : wa.cell? ⟨b, 0, none⟩ = some (.int .i64 cd.1) := Ha.out.2.cell 0
        have k1 : wa.cell? ⟨b, 1, none⟩ = some (.int .i64 cd.2) := Ha.out.2.cell 1
        cases hv with
        | some z =>
          dsimp only [Option.getD, Option.isSome]
          go_wp2_with fail
          refine (HLI.out (cd.1, z) wa Ha.out.1).mono ?_
          rintro e wb ⟨rfl, hbb⟩
          rw [Pe.home_lives HHV.out.symm]
          have Hb := Lib.hid (Ha.out.1.trans (hbb.mono Ha.out.1.size))
          clear hbb
          dsimp only
          go_wp2_with fail
          refine (alive_calls wb (H.out.2.below Hb.out)).mono ?_
          rintro e wc ⟨rfl, hbc⟩
          have Hc := Lib.hid (Hb.out.trans (hbc.mono Hb.out.size))
          clear hbc
          dsimp only
          cases LV
          all_goals
            go_wp2
            go_ret
            exact ⟨rfl, Hc.out⟩
        | none =>
          dsimp only [Option.getD, Option.isSome]
          go_wp2_with fail
          refine (HC.out.2.2.1 wa Ha.out.1).mono ?_
          rintro e wb ⟨v, rfl, hown, hbb⟩
          rw [Pe.homeless HHV.out.symm] at hown
          obtain ⟨Ab, cb, rfl, _⟩ := own_nums hown rfl
          have Hb := Lib.hid (Ha.out.1.trans (hbb.mono Ha.out.1.size))
          clear hbb hown
          dsimp only [List.length]
          go_wp2_with fail
          refine (alive_calls wb (H.out.2.below Hb.out)).mono ?_
          rintro e wc ⟨rfl, hbc⟩
          have Hc := Lib.hid (Hb.out.trans (hbc.mono Hb.out.size))
          clear hbc
          dsimp only
          cases LV
          all_goals
            go_wp2
            go_ret
            exact ⟨rfl, Hc.out⟩

end Go.Proofs.YtnphlekailodkaaGreatDoor
