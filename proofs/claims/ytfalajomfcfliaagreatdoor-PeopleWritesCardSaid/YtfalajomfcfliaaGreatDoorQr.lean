/-
  The reference's Read.
-/
import Derived.Test.YtfalajomfcfliaaGreatDoorQw
import Derived.Test.YtfalajomfcfliaaGreatDoorRd2
import Derived.Test.YtfalajomfcfliaaGreatDoorFv
import Derived.Deep.AppendLies
import Derived.Deep.CutBlock
namespace Go.Proofs.YtfalajomfcfliaaGreatDoor
open Go.RowKit

theorem infoIntN : (Tryz.prog.info? 3).map (fun i => (i.zero, i.size, i.bytes)) = some (some (.int .i64 0), 1, 8) := by kernel_rfl
def iRow (l : List Int) : List Value := l.map fun n => Value.int .i64 n
theorem len2 {l : List Int} (h : l.length = 2) : ∃ a0 a1, l = [a0, a1] := by
  match l, h with
  | [a0, a1], _ => exact ⟨a0, a1, rfl⟩
theorem len3 {l : List Int} (h : l.length = 3) : ∃ a0 a1 a2, l = [a0, a1, a2] := by
  match l, h with
  | [a0, a1, a2], _ => exact ⟨a0, a1, a2, rfl⟩
theorem len4 {l : List Int} (h : l.length = 4) : ∃ a0 a1 a2 a3, l = [a0, a1, a2, a3] := by
  match l, h with
  | [a0, a1, a2, a3], _ => exact ⟨a0, a1, a2, a3, rfl⟩
theorem len5 {l : List Int} (h : l.length = 5) : ∃ a0 a1 a2 a3 a4, l = [a0, a1, a2, a3, a4] := by
  match l, h with
  | [a0, a1, a2, a3, a4], _ => exact ⟨a0, a1, a2, a3, a4, rfl⟩
theorem len7 {l : List Int} (h : l.length = 7) : ∃ a0 a1 a2 a3 a4 a5 a6, l = [a0, a1, a2, a3, a4, a5, a6] := by
  match l, h with
  | [a0, a1, a2, a3, a4, a5, a6], _ => exact ⟨a0, a1, a2, a3, a4, a5, a6, rfl⟩
theorem own_int {W : World} {base g n cap : Nat} {l : List Int} (h : W.ownsRow base 3 1 (.slice (some ⟨g, 0, none⟩) n cap) n (iRow l)) (j : Nat) (v : Int) (hj : l[j]? = some v) : W.cell? ⟨g, j, none⟩ = some (.int .i64 v) := by
  have h6 := own_range h j [.int .i64 v] (fun q u hu => by
    match q, hu with
    | 0, hu =>
      simp at hu
      subst hu
      simp [iRow, hj])
  have := h6 0 _ rfl
  simpa using this
theorem Pe.rnums_step (k : Nat) (l : List UInt8) : Pe.rnums (k + 1) l = (Pe.rnum (Pe.cut1 l).1 :: (Pe.rnums k (Pe.cut1 l).2).1, (Pe.rnums k (Pe.cut1 l).2).2) := rfl
theorem Pe.rcounts_le (k : Nat) : Pe.rcounts k ≤ 7 := by
  unfold Pe.rcounts
  repeat' split
  all_goals omega

theorem zfin {w W : World} {b : Nat} (h : Blk W b 29 (eCells Pe.zero)) (hb : Below w.heap.size w W) (hw : w.heap.size = b) (x : Pe.Ent) : Blk ((((((((((W.setCell ⟨b, 0, none⟩ (.int .i64 x.day)).setCell ⟨b, 1, none⟩ (.int .u8 (x.kind : Int))).setCell ⟨b, 2, none⟩ (.int .i64 x.since)).setCell ⟨b, 3, none⟩ (.int .i64 x.til)).setCell ⟨b, 4, none⟩ (.int .i64 x.person)).setCell ⟨b, 5, none⟩ (.int .i64 x.place)).setCell ⟨b, 6, none⟩ (.int .i64 x.other)).setCell ⟨b, 7, none⟩ (.int .i64 x.at_)).setCell ⟨b, 8, none⟩ (.int .i64 x.order)).setCell ⟨b, 9, none⟩ (.string (bs x.name))) b 29 (eCells x) ∧
    Below w.heap.size w ((((((((((W.setCell ⟨b, 0, none⟩ (.int .i64 x.day)).setCell ⟨b, 1, none⟩ (.int .u8 (x.kind : Int))).setCell ⟨b, 2, none⟩ (.int .i64 x.since)).setCell ⟨b, 3, none⟩ (.int .i64 x.til)).setCell ⟨b, 4, none⟩ (.int .i64 x.person)).setCell ⟨b, 5, none⟩ (.int .i64 x.place)).setCell ⟨b, 6, none⟩ (.int .i64 x.other)).setCell ⟨b, 7, none⟩ (.int .i64 x.at_)).setCell ⟨b, 8, none⟩ (.int .i64 x.order)).setCell ⟨b, 9, none⟩ (.string (bs x.name))) := by
  obtain ⟨h1, h2⟩ := Blk.put10 (v0 := .int .i64 x.day) (v1 := .int .u8 (x.kind : Int)) (v2 := .int .i64 x.since) (v3 := .int .i64 x.til) (v4 := .int .i64 x.person) (v5 := .int .i64 x.place) (v6 := .int .i64 x.other) (v7 := .int .i64 x.at_) (v8 := .int .i64 x.order) (v9 := .string (bs x.name)) h
  exact ⟨h1, hb.trans (h2.below (fun i hi => by omega) hb.size)⟩

set_option maxRecDepth 1000000 in
set_option maxHeartbeats 16000000 in
theorem rRead_calls (l : List UInt8) (hl : l.length ≤ 140737488355328) (w : World) (hL : Laid w) :
    Calls Tryz.prog 22 #[.string (bs l)] w fun e w' => e = .returned (.tuple #[.agg (eCells (Pe.readR l).1), .int .i64 (Pe.readR l).2]) ∧ Below w.heap.size w w' := by
  obtain ⟨F, hF⟩ : ∃ F, F = Pe.readR l := ⟨_, rfl⟩
  rw [← hF]
  obtain ⟨i0, hi0, hz0, hz1, hz2⟩ := info_parts infoIntN
  have HI0 := Lib.hid (And.intro hi0 (And.intro hz0 (And.intro hz1 hz2)))
  have H := Lib.hid (And.intro hF (And.intro hl hL))
  clear hF hl hL hi0 hz0 hz1 hz2
  go_enter Tryz.func22, Tryz.ntmps22
  go_upto_region 1 with fail
  obtain ⟨b, hb⟩ : ∃ b, b = w.heap.size := ⟨_, rfl⟩
  obtain ⟨w1, hw1⟩ : ∃ w1, w1 = w.alloc (.cells (eCells Pe.zero) 29) := ⟨_, rfl⟩
  have hB1 : Below w.heap.size w w1 := by rw [hw1]; exact (Below.refl _ w).alloc (Nat.le_refl _) _
  have hR1 : Blk w1 b 29 (eCells Pe.zero) := by rw [hw1, hb]; exact Blk.fresh _ _ _
  rw [eCells_zero] at hw1
  rw [← hb, ← hw1]
  have H1 := Lib.hid (And.intro hB1 (And.intro hR1 hb.symm))
  clear hB1 hR1 hw1 hb
  go_wp2_with fail
  refine (rword_calls l (by have := H.out.2.1; omega) w1).mono ?_
  rintro e w2 ⟨rfl, hb2⟩
  have H2 := Lib.hid (And.intro (H1.out.1.trans (hb2.mono H1.out.1.size)) (H1.out.2.1.below hb2 H1.out.2.1.lt))
  clear hb2
  dsimp only
  go_wp2_with fail
  refine (rword_calls (Pe.cut1 l).2 (by have := (Pe.cut1_le l).2; have := H.out.2.1; omega) w2).mono ?_
  rintro e w3 ⟨rfl, hb3⟩
  have H3 := Lib.hid (And.intro (H2.out.1.trans (hb3.mono H2.out.1.size)) (H2.out.2.below hb3 H2.out.2.lt))
  clear hb3
  obtain ⟨l1, hl1⟩ : ∃ l1, l1 = (Pe.cut1 (Pe.cut1 l).2).2 := ⟨_, rfl⟩
  obtain ⟨V, hV⟩ : ∃ V, V = (Pe.cut1 (Pe.cut1 l).2).1 := ⟨_, rfl⟩
  obtain ⟨K, hK⟩ : ∃ K, K = Pe.kindOf V := ⟨_, rfl⟩
  have hK7 : K ≤ 7 := by rw [hK]; exact Pe.kindOf_le _
  have hll : l1.length ≤ 140737488355328 := by have h1 := (Pe.cut1_le (Pe.cut1 l).2).2; have h2 := (Pe.cut1_le l).2; have := H.out.2.1; rw [hl1]; omega
  rw [← hl1, ← hV]
  have hkc := rkind_calls V w3
  rw [← hK] at hkc
  rw [hV] at hK
  have HKC := Lib.hid hkc
  have HP := Lib.hid (And.intro hK7 (And.intro hll (And.intro hl1 hK)))
  clear hkc hV hl1 hK hll hK7
  dsimp only
  go_wp2_with fail
  refine HKC.out.mono ?_
  rintro e w3' ⟨rfl, rfl⟩
  dsimp only
  go_upto_region 5 with fail
  obtain ⟨g, hg⟩ : ∃ g, g = w3'.heap.size := ⟨_, rfl⟩
  obtain ⟨w4, hw4⟩ : ∃ w4, w4 = w3'.alloc (.cells (eCells { Pe.zero with kind := K }) 29) := ⟨_, rfl⟩
  have hB4 : Below w.heap.size w w4 := by rw [hw4]; exact H3.out.1.alloc H3.out.1.size _
  have hR4 : Blk w4 b 29 (eCells Pe.zero) := by rw [hw4]; exact H3.out.2.alloc _
  have hX4 : Blk w4 g 29 (eCells { Pe.zero with kind := K }) := by rw [hw4, hg]; exact Blk.fresh _ _ _
  have hgb : b < g := by rw [hg]; exact H3.out.2.lt
  rw [show eCells { Pe.zero with kind := K } = #[.int .i64 0, .int .u8 (K : Int), .int .i64 0, .int .i64 0, .int .i64 0, .int .i64 0, .int .i64 0, .int .i64 0, .int .i64 0, .string ⟨#[]⟩] from rfl] at hw4
  rw [← hg, ← hw4]
  have H4 := Lib.hid (And.intro hB4 (And.intro hR4 (And.intro hX4 hgb)))
  have x0 : w4.cell? ⟨g, 0, none⟩ = some (.int .i64 0) := hX4.cell 0
  have xf0 := hX4.frozen 0
  have xl : g < w4.heap.size := hX4.lt
  clear hB4 hR4 hX4 hg hw4
  obtain ⟨d, hd⟩ : ∃ d, d = Pe.rnum (Pe.cut1 l).1 := ⟨_, rfl⟩
  have hnc := rnumber_calls (Pe.cut1 l).1 (by have := (Pe.cut1_le l).1; have := H.out.2.1; omega) w4
  rw [← hd] at hnc
  have HNC := Lib.hid hnc
  have HD := Lib.hid hd
  clear hnc hd hgb
  go_wp2_with fail
  refine HNC.out.mono ?_
  rintro e w4' ⟨rfl, rfl⟩
  dsimp only
  go_upto_region 6 with fail
  obtain ⟨x1, hx1⟩ : ∃ x1 : Pe.Ent, x1 = { Pe.zero with day := d, kind := K } := ⟨_, rfl⟩
  obtain ⟨w5, hw5⟩ : ∃ w5, w5 = w4'.setCell ⟨g, 0, none⟩ (.int .i64 d) := ⟨_, rfl⟩
  have hB5 : Below w.heap.size w w5 := by rw [hw5]; exact H4.out.1.setCell (p := ⟨g, 0, none⟩) (by have := H1.out.2.2; have := H4.out.2.2.2; simp; omega) _
  have hR5 : Blk w5 b 29 (eCells Pe.zero) := by rw [hw5]; exact H4.out.2.1.far (by have := H4.out.2.2.2; simp; omega) _
  have hX5 : Blk w5 g 29 (eCells x1) := by rw [hw5, hx1]; exact H4.out.2.2.1.put 0 _
  rw [← hw5]
  obtain ⟨B, hBs⟩ : ∃ B, B = w5.heap.size := ⟨_, rfl⟩
  have hgB : g < B := by rw [hBs]; exact hX5.lt
  have H5 := Lib.hid (And.intro hB5 (And.intro hR5 (And.intro hX5 (And.intro hgB (And.intro hBs (And.intro hx1 H4.out.2.2.2))))))
  clear hB5 hR5 hX5 hgB hBs hx1 hw5 x0 xf0 xl
  obtain ⟨C, hC⟩ : ∃ C, C = Pe.rcounts K := ⟨_, rfl⟩
  have hC7 : C ≤ 7 := by rw [hC]; exact Pe.rcounts_le K
  have HCC := Lib.hid (And.intro hC hC7)
  clear hC
  go_wp2_with fail
  go_loopg [10, 11, 12] C (fun q s10 s11 s12 wr => ∃ (i : Nat) (A : Option Addr) (cap : Nat) (ns : List Int) (m : List UInt8), s10 = .slice A i cap ∧ s11 = .string (bs m) ∧ s12 = .int .i64 (i : Int) ∧ i + q = C ∧ Hid (Blk wr b 29 (eCells Pe.zero) ∧ Blk wr g 29 (eCells x1) ∧ Below w.heap.size w wr ∧ wr.ownsRow B 3 1 (.slice A i cap) i (iRow ns) ∧ m.length ≤ 140737488355328 ∧ ns.length = i ∧ Pe.rnums C l1 = (ns ++ (Pe.rnums (C - i) m).1, (Pe.rnums (C - i) m).2) ∧ B ≤ wr.heap.size))
  case atStart => exact ⟨0, none, 0, [], l1, rfl, rfl, by go_num, by omega, Lib.hid ⟨H5.out.2.1, H5.out.2.2.1, H5.out.1, World.ownsRow_nil _ _ _ _, HP.out.2.1, rfl, by simp, by have := H5.out.2.2.2.2.1; omega⟩⟩
  case round =>
    obtain ⟨i, A, cap, ns, m, rfl, rfl, rfl, hi, hR⟩ := hrel
    have hcc := rcounts_calls K HP.out.1 wr
    rw [← HCC.out.1] at hcc
    have HCA := Lib.hid hcc
    clear hcc
    go_wp2_with fail
    refine HCA.out.mono ?_
    rintro e wr' ⟨rfl, rfl⟩
    dsimp only
    by_cases hgo : i < C
    case neg =>
      have hd1 : decide ((i : Int) < (C : Int)) = false := by simp; omega
      have hns : Pe.rnums C l1 = (ns, m) := by
        have := hR.out.2.2.2.2.2.2.1
        rw [show C - i = 0 by omega] at this
        simpa [Pe.rnums] using this
      have hlen : ns.length = C := by have := hR.out.2.2.2.2.2.1; omega
      have hiC : i = C := by omega
      go_upto_region 15 with fail
      have HN := Lib.hid (And.intro hns (And.intro hlen hiC))
      clear hns hlen hiC hd1
      go_upto_block 2 with fail
      go_cut [] from 55 to 178 (fun wx => ∃ y : Pe.Ent, Hid (y = Pe.rparse l ∧ y.name.length ≤ 9223372036854775807 ∧ Blk wx b 29 (eCells Pe.zero) ∧ Blk wx g 29 (eCells y) ∧ Below w.heap.size w wx))
      case first =>
        have hk : K = 0 ∨ K = 1 ∨ K = 2 ∨ K = 3 ∨ K = 4 ∨ K = 5 ∨ K = 6 ∨ K = 7 := by have := HP.out.1; omega
        rcases hk with rfl | rfl | rfl | rfl | rfl | rfl | rfl | rfl
        · go_wp2
          go_meet
          obtain ⟨y, hy⟩ : ∃ y, y = x1 := ⟨_, rfl⟩
          have hpar : Pe.rparse l = y := by
            unfold Pe.rparse
            rw [← HP.out.2.2.2, ← HP.out.2.2.1, ← HD.out]
            simp only
            rw [← HCC.out.1, HN.out.1, hy, H5.out.2.2.2.2.2.1]
            rfl
          have hym : y.name.length ≤ 9223372036854775807 := by rw [hy, H5.out.2.2.2.2.2.1]; exact Nat.zero_le _
          exact ⟨y, Lib.hid ⟨hpar.symm, hym, hR.out.1, (by rw [hy]; exact hR.out.2.1), hR.out.2.2.1⟩⟩
        · obtain ⟨a0, a1, a2, rfl⟩ := len3 (l := ns) (by rw [HN.out.2.1, HCC.out.1]; rfl)
          obtain rfl : i = 3 := by rw [HN.out.2.2, HCC.out.1]; rfl
          obtain ⟨p, cap', hv, hbp, _⟩ := own_form hR.out.2.2.2.1 (by decide)
          injection hv with h1 h2 h3
          subst h1
          have n0 : wr'.cell? ⟨p, 0, none⟩ = some (.int .i64 a0) := own_int hR.out.2.2.2.1 0 a0 rfl
          have n1 : wr'.cell? ⟨p, 1, none⟩ = some (.int .i64 a1) := own_int hR.out.2.2.2.1 1 a1 rfl
          have n2 : wr'.cell? ⟨p, 2, none⟩ = some (.int .i64 a2) := own_int hR.out.2.2.2.1 2 a2 rfl
          have hgp : g < p := by have := H5.out.2.2.2.1; omega
          have e0 : wr'.cell? ⟨g, 0, none⟩ = some (.int .i64 x1.day) := hR.out.2.1.cell 0
          have e1 : wr'.cell? ⟨g, 1, none⟩ = some (.int .u8 (x1.kind : Int)) := hR.out.2.1.cell 1
          have e2 : wr'.cell? ⟨g, 2, none⟩ = some (.int .i64 x1.since) := hR.out.2.1.cell 2
          have e3 : wr'.cell? ⟨g, 3, none⟩ = some (.int .i64 x1.til) := hR.out.2.1.cell 3
          have e4 : wr'.cell? ⟨g, 4, none⟩ = some (.int .i64 x1.person) := hR.out.2.1.cell 4
          have e5 : wr'.cell? ⟨g, 5, none⟩ = some (.int .i64 x1.place) := hR.out.2.1.cell 5
          have e6 : wr'.cell? ⟨g, 6, none⟩ = some (.int .i64 x1.other) := hR.out.2.1.cell 6
          have e7 : wr'.cell? ⟨g, 7, none⟩ = some (.int .i64 x1.at_) := hR.out.2.1.cell 7
          have e8 : wr'.cell? ⟨g, 8, none⟩ = some (.int .i64 x1.order) := hR.out.2.1.cell 8
          have e9 : wr'.cell? ⟨g, 9, none⟩ = some (.string (bs x1.name)) := hR.out.2.1.cell 9
          have xf2 := hR.out.2.1.frozen 2
          have xf3 := hR.out.2.1.frozen 3
          have xf4 := hR.out.2.1.frozen 4
          have xf9 := hR.out.2.1.frozen 9
          have xl : g < wr'.heap.size := hR.out.2.1.lt
          clear h2 h3 hbp
          go_wp2
          go_meet
          obtain ⟨wz, hwz⟩ : ∃ wz, wz = ((((wr'.setCell ⟨g, 4, none⟩ (.int .i64 a0)).setCell ⟨g, 2, none⟩ (.int .i64 a1)).setCell ⟨g, 3, none⟩ (.int .i64 a2)).setCell ⟨g, 9, none⟩ (.string (bs m))) := ⟨_, rfl⟩
          rw [← hwz]
          have p0 := hR.out.2.1.put 4 (.int .i64 a0)
          rw [eCells_set (x1) 1 a0 4 (by decide)] at p0
          have p1 := p0.put 2 (.int .i64 a1)
          rw [eCells_set ((x1).set 4 a0) 1 a1 2 (by decide)] at p1
          have p2 := p1.put 3 (.int .i64 a2)
          rw [eCells_set (((x1).set 4 a0).set 2 a1) 1 a2 3 (by decide)] at p2
          have pn := p2.put 9 (.string (bs m))
          rw [eCells_name] at pn
          obtain ⟨y, hy⟩ : ∃ y : Pe.Ent, y = { (((x1).set 4 a0).set 2 a1).set 3 a2 with name := m } := ⟨_, rfl⟩
          rw [← hy, ← hwz] at pn
          have hzb := ((((hR.out.1.far (p := ⟨g, 4, none⟩) (by have := H5.out.2.2.2.2.2.2; simp; omega) (.int .i64 a0)).far (p := ⟨g, 2, none⟩) (by have := H5.out.2.2.2.2.2.2; simp; omega) (.int .i64 a1)).far (p := ⟨g, 3, none⟩) (by have := H5.out.2.2.2.2.2.2; simp; omega) (.int .i64 a2)).far (p := ⟨g, 9, none⟩) (by have := H5.out.2.2.2.2.2.2; simp; omega) (.string (bs m)))
          have hzB := ((((hR.out.2.2.1.setCell (p := ⟨g, 4, none⟩) (by have := H5.out.2.2.2.2.2.2; have := H1.out.2.2; simp; omega) (.int .i64 a0)).setCell (p := ⟨g, 2, none⟩) (by have := H5.out.2.2.2.2.2.2; have := H1.out.2.2; simp; omega) (.int .i64 a1)).setCell (p := ⟨g, 3, none⟩) (by have := H5.out.2.2.2.2.2.2; have := H1.out.2.2; simp; omega) (.int .i64 a2)).setCell (p := ⟨g, 9, none⟩) (by have := H5.out.2.2.2.2.2.2; have := H1.out.2.2; simp; omega) (.string (bs m)))
          rw [← hwz] at hzb hzB
          have hpar : Pe.rparse l = y := by
            unfold Pe.rparse
            rw [← HP.out.2.2.2, ← HP.out.2.2.1, ← HD.out]
            simp only
            rw [← HCC.out.1, HN.out.1, hy, H5.out.2.2.2.2.2.1]
            rfl
          have hym : y.name.length ≤ 9223372036854775807 := by rw [hy]; have := hR.out.2.2.2.2.1; simp only; omega
          exact ⟨y, Lib.hid ⟨hpar.symm, hym, hzb, pn, hzB⟩⟩
        · obtain ⟨a0, a1, a2, a3, rfl⟩ := len4 (l := ns) (by rw [HN.out.2.1, HCC.out.1]; rfl)
          obtain rfl : i = 4 := by rw [HN.out.2.2, HCC.out.1]; rfl
          obtain ⟨p, cap', hv, hbp, _⟩ := own_form hR.out.2.2.2.1 (by decide)
          injection hv with h1 h2 h3
          subst h1
          have n0 : wr'.cell? ⟨p, 0, none⟩ = some (.int .i64 a0) := own_int hR.out.2.2.2.1 0 a0 rfl
          have n1 : wr'.cell? ⟨p, 1, none⟩ = some (.int .i64 a1) := own_int hR.out.2.2.2.1 1 a1 rfl
          have n2 : wr'.cell? ⟨p, 2, none⟩ = some (.int .i64 a2) := own_int hR.out.2.2.2.1 2 a2 rfl
          have n3 : wr'.cell? ⟨p, 3, none⟩ = some (.int .i64 a3) := own_int hR.out.2.2.2.1 3 a3 rfl
          have hgp : g < p := by have := H5.out.2.2.2.1; omega
          have e0 : wr'.cell? ⟨g, 0, none⟩ = some (.int .i64 x1.day) := hR.out.2.1.cell 0
          have e1 : wr'.cell? ⟨g, 1, none⟩ = some (.int .u8 (x1.kind : Int)) := hR.out.2.1.cell 1
          have e2 : wr'.cell? ⟨g, 2, none⟩ = some (.int .i64 x1.since) := hR.out.2.1.cell 2
          have e3 : wr'.cell? ⟨g, 3, none⟩ = some (.int .i64 x1.til) := hR.out.2.1.cell 3
          have e4 : wr'.cell? ⟨g, 4, none⟩ = some (.int .i64 x1.person) := hR.out.2.1.cell 4
          have e5 : wr'.cell? ⟨g, 5, none⟩ = some (.int .i64 x1.place) := hR.out.2.1.cell 5
          have e6 : wr'.cell? ⟨g, 6, none⟩ = some (.int .i64 x1.other) := hR.out.2.1.cell 6
          have e7 : wr'.cell? ⟨g, 7, none⟩ = some (.int .i64 x1.at_) := hR.out.2.1.cell 7
          have e8 : wr'.cell? ⟨g, 8, none⟩ = some (.int .i64 x1.order) := hR.out.2.1.cell 8
          have e9 : wr'.cell? ⟨g, 9, none⟩ = some (.string (bs x1.name)) := hR.out.2.1.cell 9
          have xf2 := hR.out.2.1.frozen 2
          have xf3 := hR.out.2.1.frozen 3
          have xf4 := hR.out.2.1.frozen 4
          have xf5 := hR.out.2.1.frozen 5
          have xl : g < wr'.heap.size := hR.out.2.1.lt
          clear h2 h3 hbp
          go_wp2
          go_meet
          obtain ⟨wz, hwz⟩ : ∃ wz, wz = ((((wr'.setCell ⟨g, 4, none⟩ (.int .i64 a0)).setCell ⟨g, 5, none⟩ (.int .i64 a1)).setCell ⟨g, 2, none⟩ (.int .i64 a2)).setCell ⟨g, 3, none⟩ (.int .i64 a3)) := ⟨_, rfl⟩
          rw [← hwz]
          have p0 := hR.out.2.1.put 4 (.int .i64 a0)
          rw [eCells_set (x1) 2 a0 4 (by decide)] at p0
          have p1 := p0.put 5 (.int .i64 a1)
          rw [eCells_set ((x1).set 4 a0) 2 a1 5 (by decide)] at p1
          have p2 := p1.put 2 (.int .i64 a2)
          rw [eCells_set (((x1).set 4 a0).set 5 a1) 2 a2 2 (by decide)] at p2
          have p3 := p2.put 3 (.int .i64 a3)
          rw [eCells_set ((((x1).set 4 a0).set 5 a1).set 2 a2) 2 a3 3 (by decide)] at p3
          obtain ⟨y, hy⟩ : ∃ y : Pe.Ent, y = ((((x1).set 4 a0).set 5 a1).set 2 a2).set 3 a3 := ⟨_, rfl⟩
          rw [← hy, ← hwz] at p3
          have hzb := ((((hR.out.1.far (p := ⟨g, 4, none⟩) (by have := H5.out.2.2.2.2.2.2; simp; omega) (.int .i64 a0)).far (p := ⟨g, 5, none⟩) (by have := H5.out.2.2.2.2.2.2; simp; omega) (.int .i64 a1)).far (p := ⟨g, 2, none⟩) (by have := H5.out.2.2.2.2.2.2; simp; omega) (.int .i64 a2)).far (p := ⟨g, 3, none⟩) (by have := H5.out.2.2.2.2.2.2; simp; omega) (.int .i64 a3))
          have hzB := ((((hR.out.2.2.1.setCell (p := ⟨g, 4, none⟩) (by have := H5.out.2.2.2.2.2.2; have := H1.out.2.2; simp; omega) (.int .i64 a0)).setCell (p := ⟨g, 5, none⟩) (by have := H5.out.2.2.2.2.2.2; have := H1.out.2.2; simp; omega) (.int .i64 a1)).setCell (p := ⟨g, 2, none⟩) (by have := H5.out.2.2.2.2.2.2; have := H1.out.2.2; simp; omega) (.int .i64 a2)).setCell (p := ⟨g, 3, none⟩) (by have := H5.out.2.2.2.2.2.2; have := H1.out.2.2; simp; omega) (.int .i64 a3))
          rw [← hwz] at hzb hzB
          have hpar : Pe.rparse l = y := by
            unfold Pe.rparse
            rw [← HP.out.2.2.2, ← HP.out.2.2.1, ← HD.out]
            simp only
            rw [← HCC.out.1, HN.out.1, hy, H5.out.2.2.2.2.2.1]
            rfl
          have hym : y.name.length ≤ 9223372036854775807 := by rw [hy, H5.out.2.2.2.2.2.1]; exact Nat.zero_le _
          exact ⟨y, Lib.hid ⟨hpar.symm, hym, hzb, p3, hzB⟩⟩
        · obtain ⟨a0, a1, rfl⟩ := len2 (l := ns) (by rw [HN.out.2.1, HCC.out.1]; rfl)
          obtain rfl : i = 2 := by rw [HN.out.2.2, HCC.out.1]; rfl
          obtain ⟨p, cap', hv, hbp, _⟩ := own_form hR.out.2.2.2.1 (by decide)
          injection hv with h1 h2 h3
          subst h1
          have n0 : wr'.cell? ⟨p, 0, none⟩ = some (.int .i64 a0) := own_int hR.out.2.2.2.1 0 a0 rfl
          have n1 : wr'.cell? ⟨p, 1, none⟩ = some (.int .i64 a1) := own_int hR.out.2.2.2.1 1 a1 rfl
          have hgp : g < p := by have := H5.out.2.2.2.1; omega
          have e0 : wr'.cell? ⟨g, 0, none⟩ = some (.int .i64 x1.day) := hR.out.2.1.cell 0
          have e1 : wr'.cell? ⟨g, 1, none⟩ = some (.int .u8 (x1.kind : Int)) := hR.out.2.1.cell 1
          have e2 : wr'.cell? ⟨g, 2, none⟩ = some (.int .i64 x1.since) := hR.out.2.1.cell 2
          have e3 : wr'.cell? ⟨g, 3, none⟩ = some (.int .i64 x1.til) := hR.out.2.1.cell 3
          have e4 : wr'.cell? ⟨g, 4, none⟩ = some (.int .i64 x1.person) := hR.out.2.1.cell 4
          have e5 : wr'.cell? ⟨g, 5, none⟩ = some (.int .i64 x1.place) := hR.out.2.1.cell 5
          have e6 : wr'.cell? ⟨g, 6, none⟩ = some (.int .i64 x1.other) := hR.out.2.1.cell 6
          have e7 : wr'.cell? ⟨g, 7, none⟩ = some (.int .i64 x1.at_) := hR.out.2.1.cell 7
          have e8 : wr'.cell? ⟨g, 8, none⟩ = some (.int .i64 x1.order) := hR.out.2.1.cell 8
          have e9 : wr'.cell? ⟨g, 9, none⟩ = some (.string (bs x1.name)) := hR.out.2.1.cell 9
          have xf2 := hR.out.2.1.frozen 2
          have xf4 := hR.out.2.1.frozen 4
          have xl : g < wr'.heap.size := hR.out.2.1.lt
          clear h2 h3 hbp
          go_wp2
          go_meet
          obtain ⟨wz, hwz⟩ : ∃ wz, wz = ((wr'.setCell ⟨g, 4, none⟩ (.int .i64 a0)).setCell ⟨g, 2, none⟩ (.int .i64 a1)) := ⟨_, rfl⟩
          rw [← hwz]
          have p0 := hR.out.2.1.put 4 (.int .i64 a0)
          rw [eCells_set (x1) 3 a0 4 (by decide)] at p0
          have p1 := p0.put 2 (.int .i64 a1)
          rw [eCells_set ((x1).set 4 a0) 3 a1 2 (by decide)] at p1
          obtain ⟨y, hy⟩ : ∃ y : Pe.Ent, y = ((x1).set 4 a0).set 2 a1 := ⟨_, rfl⟩
          rw [← hy, ← hwz] at p1
          have hzb := ((hR.out.1.far (p := ⟨g, 4, none⟩) (by have := H5.out.2.2.2.2.2.2; simp; omega) (.int .i64 a0)).far (p := ⟨g, 2, none⟩) (by have := H5.out.2.2.2.2.2.2; simp; omega) (.int .i64 a1))
          have hzB := ((hR.out.2.2.1.setCell (p := ⟨g, 4, none⟩) (by have := H5.out.2.2.2.2.2.2; have := H1.out.2.2; simp; omega) (.int .i64 a0)).setCell (p := ⟨g, 2, none⟩) (by have := H5.out.2.2.2.2.2.2; have := H1.out.2.2; simp; omega) (.int .i64 a1))
          rw [← hwz] at hzb hzB
          have hpar : Pe.rparse l = y := by
            unfold Pe.rparse
            rw [← HP.out.2.2.2, ← HP.out.2.2.1, ← HD.out]
            simp only
            rw [← HCC.out.1, HN.out.1, hy, H5.out.2.2.2.2.2.1]
            rfl
          have hym : y.name.length ≤ 9223372036854775807 := by rw [hy, H5.out.2.2.2.2.2.1]; exact Nat.zero_le _
          exact ⟨y, Lib.hid ⟨hpar.symm, hym, hzb, p1, hzB⟩⟩
        · obtain ⟨a0, a1, a2, a3, rfl⟩ := len4 (l := ns) (by rw [HN.out.2.1, HCC.out.1]; rfl)
          obtain rfl : i = 4 := by rw [HN.out.2.2, HCC.out.1]; rfl
          obtain ⟨p, cap', hv, hbp, _⟩ := own_form hR.out.2.2.2.1 (by decide)
          injection hv with h1 h2 h3
          subst h1
          have n0 : wr'.cell? ⟨p, 0, none⟩ = some (.int .i64 a0) := own_int hR.out.2.2.2.1 0 a0 rfl
          have n1 : wr'.cell? ⟨p, 1, none⟩ = some (.int .i64 a1) := own_int hR.out.2.2.2.1 1 a1 rfl
          have n2 : wr'.cell? ⟨p, 2, none⟩ = some (.int .i64 a2) := own_int hR.out.2.2.2.1 2 a2 rfl
          have n3 : wr'.cell? ⟨p, 3, none⟩ = some (.int .i64 a3) := own_int hR.out.2.2.2.1 3 a3 rfl
          have hgp : g < p := by have := H5.out.2.2.2.1; omega
          have e0 : wr'.cell? ⟨g, 0, none⟩ = some (.int .i64 x1.day) := hR.out.2.1.cell 0
          have e1 : wr'.cell? ⟨g, 1, none⟩ = some (.int .u8 (x1.kind : Int)) := hR.out.2.1.cell 1
          have e2 : wr'.cell? ⟨g, 2, none⟩ = some (.int .i64 x1.since) := hR.out.2.1.cell 2
          have e3 : wr'.cell? ⟨g, 3, none⟩ = some (.int .i64 x1.til) := hR.out.2.1.cell 3
          have e4 : wr'.cell? ⟨g, 4, none⟩ = some (.int .i64 x1.person) := hR.out.2.1.cell 4
          have e5 : wr'.cell? ⟨g, 5, none⟩ = some (.int .i64 x1.place) := hR.out.2.1.cell 5
          have e6 : wr'.cell? ⟨g, 6, none⟩ = some (.int .i64 x1.other) := hR.out.2.1.cell 6
          have e7 : wr'.cell? ⟨g, 7, none⟩ = some (.int .i64 x1.at_) := hR.out.2.1.cell 7
          have e8 : wr'.cell? ⟨g, 8, none⟩ = some (.int .i64 x1.order) := hR.out.2.1.cell 8
          have e9 : wr'.cell? ⟨g, 9, none⟩ = some (.string (bs x1.name)) := hR.out.2.1.cell 9
          have xf2 := hR.out.2.1.frozen 2
          have xf3 := hR.out.2.1.frozen 3
          have xf4 := hR.out.2.1.frozen 4
          have xf6 := hR.out.2.1.frozen 6
          have xl : g < wr'.heap.size := hR.out.2.1.lt
          clear h2 h3 hbp
          go_wp2
          go_meet
          obtain ⟨wz, hwz⟩ : ∃ wz, wz = ((((wr'.setCell ⟨g, 4, none⟩ (.int .i64 a0)).setCell ⟨g, 6, none⟩ (.int .i64 a1)).setCell ⟨g, 2, none⟩ (.int .i64 a2)).setCell ⟨g, 3, none⟩ (.int .i64 a3)) := ⟨_, rfl⟩
          rw [← hwz]
          have p0 := hR.out.2.1.put 4 (.int .i64 a0)
          rw [eCells_set (x1) 4 a0 4 (by decide)] at p0
          have p1 := p0.put 6 (.int .i64 a1)
          rw [eCells_set ((x1).set 4 a0) 4 a1 6 (by decide)] at p1
          have p2 := p1.put 2 (.int .i64 a2)
          rw [eCells_set (((x1).set 4 a0).set 6 a1) 4 a2 2 (by decide)] at p2
          have p3 := p2.put 3 (.int .i64 a3)
          rw [eCells_set ((((x1).set 4 a0).set 6 a1).set 2 a2) 4 a3 3 (by decide)] at p3
          obtain ⟨y, hy⟩ : ∃ y : Pe.Ent, y = ((((x1).set 4 a0).set 6 a1).set 2 a2).set 3 a3 := ⟨_, rfl⟩
          rw [← hy, ← hwz] at p3
          have hzb := ((((hR.out.1.far (p := ⟨g, 4, none⟩) (by have := H5.out.2.2.2.2.2.2; simp; omega) (.int .i64 a0)).far (p := ⟨g, 6, none⟩) (by have := H5.out.2.2.2.2.2.2; simp; omega) (.int .i64 a1)).far (p := ⟨g, 2, none⟩) (by have := H5.out.2.2.2.2.2.2; simp; omega) (.int .i64 a2)).far (p := ⟨g, 3, none⟩) (by have := H5.out.2.2.2.2.2.2; simp; omega) (.int .i64 a3))
          have hzB := ((((hR.out.2.2.1.setCell (p := ⟨g, 4, none⟩) (by have := H5.out.2.2.2.2.2.2; have := H1.out.2.2; simp; omega) (.int .i64 a0)).setCell (p := ⟨g, 6, none⟩) (by have := H5.out.2.2.2.2.2.2; have := H1.out.2.2; simp; omega) (.int .i64 a1)).setCell (p := ⟨g, 2, none⟩) (by have := H5.out.2.2.2.2.2.2; have := H1.out.2.2; simp; omega) (.int .i64 a2)).setCell (p := ⟨g, 3, none⟩) (by have := H5.out.2.2.2.2.2.2; have := H1.out.2.2; simp; omega) (.int .i64 a3))
          rw [← hwz] at hzb hzB
          have hpar : Pe.rparse l = y := by
            unfold Pe.rparse
            rw [← HP.out.2.2.2, ← HP.out.2.2.1, ← HD.out]
            simp only
            rw [← HCC.out.1, HN.out.1, hy, H5.out.2.2.2.2.2.1]
            rfl
          have hym : y.name.length ≤ 9223372036854775807 := by rw [hy, H5.out.2.2.2.2.2.1]; exact Nat.zero_le _
          exact ⟨y, Lib.hid ⟨hpar.symm, hym, hzb, p3, hzB⟩⟩
        · obtain ⟨a0, a1, a2, a3, a4, a5, a6, rfl⟩ := len7 (l := ns) (by rw [HN.out.2.1, HCC.out.1]; rfl)
          obtain rfl : i = 7 := by rw [HN.out.2.2, HCC.out.1]; rfl
          obtain ⟨p, cap', hv, hbp, _⟩ := own_form hR.out.2.2.2.1 (by decide)
          injection hv with h1 h2 h3
          subst h1
          have n0 : wr'.cell? ⟨p, 0, none⟩ = some (.int .i64 a0) := own_int hR.out.2.2.2.1 0 a0 rfl
          have n1 : wr'.cell? ⟨p, 1, none⟩ = some (.int .i64 a1) := own_int hR.out.2.2.2.1 1 a1 rfl
          have n2 : wr'.cell? ⟨p, 2, none⟩ = some (.int .i64 a2) := own_int hR.out.2.2.2.1 2 a2 rfl
          have n3 : wr'.cell? ⟨p, 3, none⟩ = some (.int .i64 a3) := own_int hR.out.2.2.2.1 3 a3 rfl
          have n4 : wr'.cell? ⟨p, 4, none⟩ = some (.int .i64 a4) := own_int hR.out.2.2.2.1 4 a4 rfl
          have n5 : wr'.cell? ⟨p, 5, none⟩ = some (.int .i64 a5) := own_int hR.out.2.2.2.1 5 a5 rfl
          have n6 : wr'.cell? ⟨p, 6, none⟩ = some (.int .i64 a6) := own_int hR.out.2.2.2.1 6 a6 rfl
          have hgp : g < p := by have := H5.out.2.2.2.1; omega
          have e0 : wr'.cell? ⟨g, 0, none⟩ = some (.int .i64 x1.day) := hR.out.2.1.cell 0
          have e1 : wr'.cell? ⟨g, 1, none⟩ = some (.int .u8 (x1.kind : Int)) := hR.out.2.1.cell 1
          have e2 : wr'.cell? ⟨g, 2, none⟩ = some (.int .i64 x1.since) := hR.out.2.1.cell 2
          have e3 : wr'.cell? ⟨g, 3, none⟩ = some (.int .i64 x1.til) := hR.out.2.1.cell 3
          have e4 : wr'.cell? ⟨g, 4, none⟩ = some (.int .i64 x1.person) := hR.out.2.1.cell 4
          have e5 : wr'.cell? ⟨g, 5, none⟩ = some (.int .i64 x1.place) := hR.out.2.1.cell 5
          have e6 : wr'.cell? ⟨g, 6, none⟩ = some (.int .i64 x1.other) := hR.out.2.1.cell 6
          have e7 : wr'.cell? ⟨g, 7, none⟩ = some (.int .i64 x1.at_) := hR.out.2.1.cell 7
          have e8 : wr'.cell? ⟨g, 8, none⟩ = some (.int .i64 x1.order) := hR.out.2.1.cell 8
          have e9 : wr'.cell? ⟨g, 9, none⟩ = some (.string (bs x1.name)) := hR.out.2.1.cell 9
          have xf2 := hR.out.2.1.frozen 2
          have xf3 := hR.out.2.1.frozen 3
          have xf4 := hR.out.2.1.frozen 4
          have xf5 := hR.out.2.1.frozen 5
          have xf6 := hR.out.2.1.frozen 6
          have xf7 := hR.out.2.1.frozen 7
          have xf8 := hR.out.2.1.frozen 8
          have xl : g < wr'.heap.size := hR.out.2.1.lt
          clear h2 h3 hbp
          go_wp2
          go_meet
          obtain ⟨wz, hwz⟩ : ∃ wz, wz = (((((((wr'.setCell ⟨g, 8, none⟩ (.int .i64 a0)).setCell ⟨g, 4, none⟩ (.int .i64 a1)).setCell ⟨g, 5, none⟩ (.int .i64 a2)).setCell ⟨g, 6, none⟩ (.int .i64 a3)).setCell ⟨g, 7, none⟩ (.int .i64 a4)).setCell ⟨g, 2, none⟩ (.int .i64 a5)).setCell ⟨g, 3, none⟩ (.int .i64 a6)) := ⟨_, rfl⟩
          rw [← hwz]
          have p0 := hR.out.2.1.put 8 (.int .i64 a0)
          rw [eCells_set (x1) 5 a0 8 (by decide)] at p0
          have p1 := p0.put 4 (.int .i64 a1)
          rw [eCells_set ((x1).set 8 a0) 5 a1 4 (by decide)] at p1
          have p2 := p1.put 5 (.int .i64 a2)
          rw [eCells_set (((x1).set 8 a0).set 4 a1) 5 a2 5 (by decide)] at p2
          have p3 := p2.put 6 (.int .i64 a3)
          rw [eCells_set ((((x1).set 8 a0).set 4 a1).set 5 a2) 5 a3 6 (by decide)] at p3
          have p4 := p3.put 7 (.int .i64 a4)
          rw [eCells_set (((((x1).set 8 a0).set 4 a1).set 5 a2).set 6 a3) 5 a4 7 (by decide)] at p4
          have p5 := p4.put 2 (.int .i64 a5)
          rw [eCells_set ((((((x1).set 8 a0).set 4 a1).set 5 a2).set 6 a3).set 7 a4) 5 a5 2 (by decide)] at p5
          have p6 := p5.put 3 (.int .i64 a6)
          rw [eCells_set (((((((x1).set 8 a0).set 4 a1).set 5 a2).set 6 a3).set 7 a4).set 2 a5) 5 a6 3 (by decide)] at p6
          obtain ⟨y, hy⟩ : ∃ y : Pe.Ent, y = (((((((x1).set 8 a0).set 4 a1).set 5 a2).set 6 a3).set 7 a4).set 2 a5).set 3 a6 := ⟨_, rfl⟩
          rw [← hy, ← hwz] at p6
          have hzb := (((((((hR.out.1.far (p := ⟨g, 8, none⟩) (by have := H5.out.2.2.2.2.2.2; simp; omega) (.int .i64 a0)).far (p := ⟨g, 4, none⟩) (by have := H5.out.2.2.2.2.2.2; simp; omega) (.int .i64 a1)).far (p := ⟨g, 5, none⟩) (by have := H5.out.2.2.2.2.2.2; simp; omega) (.int .i64 a2)).far (p := ⟨g, 6, none⟩) (by have := H5.out.2.2.2.2.2.2; simp; omega) (.int .i64 a3)).far (p := ⟨g, 7, none⟩) (by have := H5.out.2.2.2.2.2.2; simp; omega) (.int .i64 a4)).far (p := ⟨g, 2, none⟩) (by have := H5.out.2.2.2.2.2.2; simp; omega) (.int .i64 a5)).far (p := ⟨g, 3, none⟩) (by have := H5.out.2.2.2.2.2.2; simp; omega) (.int .i64 a6))
          have hzB := (((((((hR.out.2.2.1.setCell (p := ⟨g, 8, none⟩) (by have := H5.out.2.2.2.2.2.2; have := H1.out.2.2; simp; omega) (.int .i64 a0)).setCell (p := ⟨g, 4, none⟩) (by have := H5.out.2.2.2.2.2.2; have := H1.out.2.2; simp; omega) (.int .i64 a1)).setCell (p := ⟨g, 5, none⟩) (by have := H5.out.2.2.2.2.2.2; have := H1.out.2.2; simp; omega) (.int .i64 a2)).setCell (p := ⟨g, 6, none⟩) (by have := H5.out.2.2.2.2.2.2; have := H1.out.2.2; simp; omega) (.int .i64 a3)).setCell (p := ⟨g, 7, none⟩) (by have := H5.out.2.2.2.2.2.2; have := H1.out.2.2; simp; omega) (.int .i64 a4)).setCell (p := ⟨g, 2, none⟩) (by have := H5.out.2.2.2.2.2.2; have := H1.out.2.2; simp; omega) (.int .i64 a5)).setCell (p := ⟨g, 3, none⟩) (by have := H5.out.2.2.2.2.2.2; have := H1.out.2.2; simp; omega) (.int .i64 a6))
          rw [← hwz] at hzb hzB
          have hpar : Pe.rparse l = y := by
            unfold Pe.rparse
            rw [← HP.out.2.2.2, ← HP.out.2.2.1, ← HD.out]
            simp only
            rw [← HCC.out.1, HN.out.1, hy, H5.out.2.2.2.2.2.1]
            rfl
          have hym : y.name.length ≤ 9223372036854775807 := by rw [hy, H5.out.2.2.2.2.2.1]; exact Nat.zero_le _
          exact ⟨y, Lib.hid ⟨hpar.symm, hym, hzb, p6, hzB⟩⟩
        · obtain ⟨a0, a1, rfl⟩ := len2 (l := ns) (by rw [HN.out.2.1, HCC.out.1]; rfl)
          obtain rfl : i = 2 := by rw [HN.out.2.2, HCC.out.1]; rfl
          obtain ⟨p, cap', hv, hbp, _⟩ := own_form hR.out.2.2.2.1 (by decide)
          injection hv with h1 h2 h3
          subst h1
          have n0 : wr'.cell? ⟨p, 0, none⟩ = some (.int .i64 a0) := own_int hR.out.2.2.2.1 0 a0 rfl
          have n1 : wr'.cell? ⟨p, 1, none⟩ = some (.int .i64 a1) := own_int hR.out.2.2.2.1 1 a1 rfl
          have hgp : g < p := by have := H5.out.2.2.2.1; omega
          have e0 : wr'.cell? ⟨g, 0, none⟩ = some (.int .i64 x1.day) := hR.out.2.1.cell 0
          have e1 : wr'.cell? ⟨g, 1, none⟩ = some (.int .u8 (x1.kind : Int)) := hR.out.2.1.cell 1
          have e2 : wr'.cell? ⟨g, 2, none⟩ = some (.int .i64 x1.since) := hR.out.2.1.cell 2
          have e3 : wr'.cell? ⟨g, 3, none⟩ = some (.int .i64 x1.til) := hR.out.2.1.cell 3
          have e4 : wr'.cell? ⟨g, 4, none⟩ = some (.int .i64 x1.person) := hR.out.2.1.cell 4
          have e5 : wr'.cell? ⟨g, 5, none⟩ = some (.int .i64 x1.place) := hR.out.2.1.cell 5
          have e6 : wr'.cell? ⟨g, 6, none⟩ = some (.int .i64 x1.other) := hR.out.2.1.cell 6
          have e7 : wr'.cell? ⟨g, 7, none⟩ = some (.int .i64 x1.at_) := hR.out.2.1.cell 7
          have e8 : wr'.cell? ⟨g, 8, none⟩ = some (.int .i64 x1.order) := hR.out.2.1.cell 8
          have e9 : wr'.cell? ⟨g, 9, none⟩ = some (.string (bs x1.name)) := hR.out.2.1.cell 9
          have xf2 := hR.out.2.1.frozen 2
          have xf8 := hR.out.2.1.frozen 8
          have xl : g < wr'.heap.size := hR.out.2.1.lt
          clear h2 h3 hbp
          go_wp2
          go_meet
          obtain ⟨wz, hwz⟩ : ∃ wz, wz = ((wr'.setCell ⟨g, 8, none⟩ (.int .i64 a0)).setCell ⟨g, 2, none⟩ (.int .i64 a1)) := ⟨_, rfl⟩
          rw [← hwz]
          have p0 := hR.out.2.1.put 8 (.int .i64 a0)
          rw [eCells_set (x1) 6 a0 8 (by decide)] at p0
          have p1 := p0.put 2 (.int .i64 a1)
          rw [eCells_set ((x1).set 8 a0) 6 a1 2 (by decide)] at p1
          obtain ⟨y, hy⟩ : ∃ y : Pe.Ent, y = ((x1).set 8 a0).set 2 a1 := ⟨_, rfl⟩
          rw [← hy, ← hwz] at p1
          have hzb := ((hR.out.1.far (p := ⟨g, 8, none⟩) (by have := H5.out.2.2.2.2.2.2; simp; omega) (.int .i64 a0)).far (p := ⟨g, 2, none⟩) (by have := H5.out.2.2.2.2.2.2; simp; omega) (.int .i64 a1))
          have hzB := ((hR.out.2.2.1.setCell (p := ⟨g, 8, none⟩) (by have := H5.out.2.2.2.2.2.2; have := H1.out.2.2; simp; omega) (.int .i64 a0)).setCell (p := ⟨g, 2, none⟩) (by have := H5.out.2.2.2.2.2.2; have := H1.out.2.2; simp; omega) (.int .i64 a1))
          rw [← hwz] at hzb hzB
          have hpar : Pe.rparse l = y := by
            unfold Pe.rparse
            rw [← HP.out.2.2.2, ← HP.out.2.2.1, ← HD.out]
            simp only
            rw [← HCC.out.1, HN.out.1, hy, H5.out.2.2.2.2.2.1]
            rfl
          have hym : y.name.length ≤ 9223372036854775807 := by rw [hy, H5.out.2.2.2.2.2.1]; exact Nat.zero_le _
          exact ⟨y, Lib.hid ⟨hpar.symm, hym, hzb, p1, hzB⟩⟩
        · obtain ⟨a0, a1, a2, a3, a4, rfl⟩ := len5 (l := ns) (by rw [HN.out.2.1, HCC.out.1]; rfl)
          obtain rfl : i = 5 := by rw [HN.out.2.2, HCC.out.1]; rfl
          obtain ⟨p, cap', hv, hbp, _⟩ := own_form hR.out.2.2.2.1 (by decide)
          injection hv with h1 h2 h3
          subst h1
          have n0 : wr'.cell? ⟨p, 0, none⟩ = some (.int .i64 a0) := own_int hR.out.2.2.2.1 0 a0 rfl
          have n1 : wr'.cell? ⟨p, 1, none⟩ = some (.int .i64 a1) := own_int hR.out.2.2.2.1 1 a1 rfl
          have n2 : wr'.cell? ⟨p, 2, none⟩ = some (.int .i64 a2) := own_int hR.out.2.2.2.1 2 a2 rfl
          have n3 : wr'.cell? ⟨p, 3, none⟩ = some (.int .i64 a3) := own_int hR.out.2.2.2.1 3 a3 rfl
          have n4 : wr'.cell? ⟨p, 4, none⟩ = some (.int .i64 a4) := own_int hR.out.2.2.2.1 4 a4 rfl
          have hgp : g < p := by have := H5.out.2.2.2.1; omega
          have e0 : wr'.cell? ⟨g, 0, none⟩ = some (.int .i64 x1.day) := hR.out.2.1.cell 0
          have e1 : wr'.cell? ⟨g, 1, none⟩ = some (.int .u8 (x1.kind : Int)) := hR.out.2.1.cell 1
          have e2 : wr'.cell? ⟨g, 2, none⟩ = some (.int .i64 x1.since) := hR.out.2.1.cell 2
          have e3 : wr'.cell? ⟨g, 3, none⟩ = some (.int .i64 x1.til) := hR.out.2.1.cell 3
          have e4 : wr'.cell? ⟨g, 4, none⟩ = some (.int .i64 x1.person) := hR.out.2.1.cell 4
          have e5 : wr'.cell? ⟨g, 5, none⟩ = some (.int .i64 x1.place) := hR.out.2.1.cell 5
          have e6 : wr'.cell? ⟨g, 6, none⟩ = some (.int .i64 x1.other) := hR.out.2.1.cell 6
          have e7 : wr'.cell? ⟨g, 7, none⟩ = some (.int .i64 x1.at_) := hR.out.2.1.cell 7
          have e8 : wr'.cell? ⟨g, 8, none⟩ = some (.int .i64 x1.order) := hR.out.2.1.cell 8
          have e9 : wr'.cell? ⟨g, 9, none⟩ = some (.string (bs x1.name)) := hR.out.2.1.cell 9
          have xf2 := hR.out.2.1.frozen 2
          have xf3 := hR.out.2.1.frozen 3
          have xf4 := hR.out.2.1.frozen 4
          have xf5 := hR.out.2.1.frozen 5
          have xf6 := hR.out.2.1.frozen 6
          have xl : g < wr'.heap.size := hR.out.2.1.lt
          clear h2 h3 hbp
          go_wp2
          go_meet
          obtain ⟨wz, hwz⟩ : ∃ wz, wz = (((((wr'.setCell ⟨g, 4, none⟩ (.int .i64 a0)).setCell ⟨g, 5, none⟩ (.int .i64 a1)).setCell ⟨g, 6, none⟩ (.int .i64 a2)).setCell ⟨g, 2, none⟩ (.int .i64 a3)).setCell ⟨g, 3, none⟩ (.int .i64 a4)) := ⟨_, rfl⟩
          rw [← hwz]
          have p0 := hR.out.2.1.put 4 (.int .i64 a0)
          rw [eCells_set (x1) 7 a0 4 (by decide)] at p0
          have p1 := p0.put 5 (.int .i64 a1)
          rw [eCells_set ((x1).set 4 a0) 7 a1 5 (by decide)] at p1
          have p2 := p1.put 6 (.int .i64 a2)
          rw [eCells_set (((x1).set 4 a0).set 5 a1) 7 a2 6 (by decide)] at p2
          have p3 := p2.put 2 (.int .i64 a3)
          rw [eCells_set ((((x1).set 4 a0).set 5 a1).set 6 a2) 7 a3 2 (by decide)] at p3
          have p4 := p3.put 3 (.int .i64 a4)
          rw [eCells_set (((((x1).set 4 a0).set 5 a1).set 6 a2).set 2 a3) 7 a4 3 (by decide)] at p4
          obtain ⟨y, hy⟩ : ∃ y : Pe.Ent, y = (((((x1).set 4 a0).set 5 a1).set 6 a2).set 2 a3).set 3 a4 := ⟨_, rfl⟩
          rw [← hy, ← hwz] at p4
          have hzb := (((((hR.out.1.far (p := ⟨g, 4, none⟩) (by have := H5.out.2.2.2.2.2.2; simp; omega) (.int .i64 a0)).far (p := ⟨g, 5, none⟩) (by have := H5.out.2.2.2.2.2.2; simp; omega) (.int .i64 a1)).far (p := ⟨g, 6, none⟩) (by have := H5.out.2.2.2.2.2.2; simp; omega) (.int .i64 a2)).far (p := ⟨g, 2, none⟩) (by have := H5.out.2.2.2.2.2.2; simp; omega) (.int .i64 a3)).far (p := ⟨g, 3, none⟩) (by have := H5.out.2.2.2.2.2.2; simp; omega) (.int .i64 a4))
          have hzB := (((((hR.out.2.2.1.setCell (p := ⟨g, 4, none⟩) (by have := H5.out.2.2.2.2.2.2; have := H1.out.2.2; simp; omega) (.int .i64 a0)).setCell (p := ⟨g, 5, none⟩) (by have := H5.out.2.2.2.2.2.2; have := H1.out.2.2; simp; omega) (.int .i64 a1)).setCell (p := ⟨g, 6, none⟩) (by have := H5.out.2.2.2.2.2.2; have := H1.out.2.2; simp; omega) (.int .i64 a2)).setCell (p := ⟨g, 2, none⟩) (by have := H5.out.2.2.2.2.2.2; have := H1.out.2.2; simp; omega) (.int .i64 a3)).setCell (p := ⟨g, 3, none⟩) (by have := H5.out.2.2.2.2.2.2; have := H1.out.2.2; simp; omega) (.int .i64 a4))
          rw [← hwz] at hzb hzB
          have hpar : Pe.rparse l = y := by
            unfold Pe.rparse
            rw [← HP.out.2.2.2, ← HP.out.2.2.1, ← HD.out]
            simp only
            rw [← HCC.out.1, HN.out.1, hy, H5.out.2.2.2.2.2.1]
            rfl
          have hym : y.name.length ≤ 9223372036854775807 := by rw [hy, H5.out.2.2.2.2.2.1]; exact Nat.zero_le _
          exact ⟨y, Lib.hid ⟨hpar.symm, hym, hzb, p4, hzB⟩⟩
      case rest =>
      obtain ⟨y, HQ⟩ := hcut
      obtain ⟨wz, rfl⟩ : ∃ wz : World, wz = wc := ⟨_, rfl⟩
      have hym := HQ.out.2.1
      have HY := Lib.hid (show F = if Pe.formed y = 0 ∧ Pe.line y = l then (y, 0) else (Pe.zero, 4) by rw [H.out.1, Pe.readR, HQ.out.1])
      have HZ0 := Lib.hid HQ.out.2.2
      clear HQ
      apply_assumption
      have c0 : wz.cell? ⟨g, 0, none⟩ = some (.int .i64 y.day) := HZ0.out.2.1.cell 0
      have c1 : wz.cell? ⟨g, 1, none⟩ = some (.int .u8 (y.kind : Int)) := HZ0.out.2.1.cell 1
      have c2 : wz.cell? ⟨g, 2, none⟩ = some (.int .i64 y.since) := HZ0.out.2.1.cell 2
      have c3 : wz.cell? ⟨g, 3, none⟩ = some (.int .i64 y.til) := HZ0.out.2.1.cell 3
      have c4 : wz.cell? ⟨g, 4, none⟩ = some (.int .i64 y.person) := HZ0.out.2.1.cell 4
      have c5 : wz.cell? ⟨g, 5, none⟩ = some (.int .i64 y.place) := HZ0.out.2.1.cell 5
      have c6 : wz.cell? ⟨g, 6, none⟩ = some (.int .i64 y.other) := HZ0.out.2.1.cell 6
      have c7 : wz.cell? ⟨g, 7, none⟩ = some (.int .i64 y.at_) := HZ0.out.2.1.cell 7
      have c8 : wz.cell? ⟨g, 8, none⟩ = some (.int .i64 y.order) := HZ0.out.2.1.cell 8
      have c9 : wz.cell? ⟨g, 9, none⟩ = some (.string (bs y.name)) := HZ0.out.2.1.cell 9
      have hgb : b < g := H5.out.2.2.2.2.2.2
      have hwc := rWrite_calls y hym wz (H.out.2.2.below HZ0.out.2.2)
      by_cases hf : Pe.formed y = 0
      case neg =>
        have HF3 := Lib.hid (show F = (Pe.zero, 4) by rw [HY.out, if_neg (fun e => hf e.1)])
        rw [if_neg hf] at hwc
        obtain ⟨f, hff⟩ : ∃ f, f = Pe.formed y := ⟨_, rfl⟩
        rw [← hff] at hwc hf
        have d1 : (f != 0) = true := by simpa using hf
        have HWC := Lib.hid hwc
        clear hwc hff hf hym
        go_wp2_with fail
        refine HWC.out.mono ?_
        rintro e wy ⟨rfl, hby⟩
        have HZ := Lib.hid (And.intro (HZ0.out.1.below hby HZ0.out.1.lt) (And.intro (HZ0.out.2.1.below hby HZ0.out.2.1.lt) (HZ0.out.2.2.trans (hby.mono HZ0.out.2.2.size))))
        clear hby
        clear c0 c1 c2 c3 c4 c5 c6 c7 c8 c9
        have r0 : wy.cell? ⟨b, 0, none⟩ = some (.int .i64 Pe.zero.day) := HZ.out.1.cell 0
        have r1 : wy.cell? ⟨b, 1, none⟩ = some (.int .u8 (Pe.zero.kind : Int)) := HZ.out.1.cell 1
        have r2 : wy.cell? ⟨b, 2, none⟩ = some (.int .i64 Pe.zero.since) := HZ.out.1.cell 2
        have r3 : wy.cell? ⟨b, 3, none⟩ = some (.int .i64 Pe.zero.til) := HZ.out.1.cell 3
        have r4 : wy.cell? ⟨b, 4, none⟩ = some (.int .i64 Pe.zero.person) := HZ.out.1.cell 4
        have r5 : wy.cell? ⟨b, 5, none⟩ = some (.int .i64 Pe.zero.place) := HZ.out.1.cell 5
        have r6 : wy.cell? ⟨b, 6, none⟩ = some (.int .i64 Pe.zero.other) := HZ.out.1.cell 6
        have r7 : wy.cell? ⟨b, 7, none⟩ = some (.int .i64 Pe.zero.at_) := HZ.out.1.cell 7
        have r8 : wy.cell? ⟨b, 8, none⟩ = some (.int .i64 Pe.zero.order) := HZ.out.1.cell 8
        have r9 : wy.cell? ⟨b, 9, none⟩ = some (.string (bs Pe.zero.name)) := HZ.out.1.cell 9
        have f0 := HZ.out.1.frozen 0
        have f1 := HZ.out.1.frozen 1
        have f2 := HZ.out.1.frozen 2
        have f3 := HZ.out.1.frozen 3
        have f4 := HZ.out.1.frozen 4
        have f5 := HZ.out.1.frozen 5
        have f6 := HZ.out.1.frozen 6
        have f7 := HZ.out.1.frozen 7
        have f8 := HZ.out.1.frozen 8
        have f9 := HZ.out.1.frozen 9
        have lb : b < wy.heap.size := HZ.out.1.lt
        dsimp only
        go_wp2
        obtain ⟨z1, z2⟩ := zfin HZ.out.1 HZ.out.2.2 H1.out.2.2 Pe.zero
        refine bodyPost_ret (results_row2 (P := Tryz.prog) (fn := Tryz.f22) rfl _ _ b (eCells Pe.zero) _ rfl z1 Tryz.underlying29 rfl infoEntryN) rfl ⟨?_, z2⟩
        rw [HF3.out]; rfl
      rw [if_pos hf, hf] at hwc
      have HWC := Lib.hid hwc
      clear hwc hym
      by_cases hll : Pe.line y = l
      case neg =>
        have HF3 := Lib.hid (show F = (Pe.zero, 4) by rw [HY.out, if_neg (fun e => hll e.2)])
        have q3 : ((bs (Pe.line y)).toList == (bs l).toList) = false := by rw [bs_beq]; simpa using hll
        have q4 : ((bs (Pe.line y)).toList != (bs l).toList) = true := by rw [bne, q3]; rfl
        clear hf hll
        go_wp2_with fail
        refine HWC.out.mono ?_
        rintro e wy ⟨rfl, hby⟩
        have HZ := Lib.hid (And.intro (HZ0.out.1.below hby HZ0.out.1.lt) (And.intro (HZ0.out.2.1.below hby HZ0.out.2.1.lt) (HZ0.out.2.2.trans (hby.mono HZ0.out.2.2.size))))
        clear hby
        clear c0 c1 c2 c3 c4 c5 c6 c7 c8 c9
        have r0 : wy.cell? ⟨b, 0, none⟩ = some (.int .i64 Pe.zero.day) := HZ.out.1.cell 0
        have r1 : wy.cell? ⟨b, 1, none⟩ = some (.int .u8 (Pe.zero.kind : Int)) := HZ.out.1.cell 1
        have r2 : wy.cell? ⟨b, 2, none⟩ = some (.int .i64 Pe.zero.since) := HZ.out.1.cell 2
        have r3 : wy.cell? ⟨b, 3, none⟩ = some (.int .i64 Pe.zero.til) := HZ.out.1.cell 3
        have r4 : wy.cell? ⟨b, 4, none⟩ = some (.int .i64 Pe.zero.person) := HZ.out.1.cell 4
        have r5 : wy.cell? ⟨b, 5, none⟩ = some (.int .i64 Pe.zero.place) := HZ.out.1.cell 5
        have r6 : wy.cell? ⟨b, 6, none⟩ = some (.int .i64 Pe.zero.other) := HZ.out.1.cell 6
        have r7 : wy.cell? ⟨b, 7, none⟩ = some (.int .i64 Pe.zero.at_) := HZ.out.1.cell 7
        have r8 : wy.cell? ⟨b, 8, none⟩ = some (.int .i64 Pe.zero.order) := HZ.out.1.cell 8
        have r9 : wy.cell? ⟨b, 9, none⟩ = some (.string (bs Pe.zero.name)) := HZ.out.1.cell 9
        have f0 := HZ.out.1.frozen 0
        have f1 := HZ.out.1.frozen 1
        have f2 := HZ.out.1.frozen 2
        have f3 := HZ.out.1.frozen 3
        have f4 := HZ.out.1.frozen 4
        have f5 := HZ.out.1.frozen 5
        have f6 := HZ.out.1.frozen 6
        have f7 := HZ.out.1.frozen 7
        have f8 := HZ.out.1.frozen 8
        have f9 := HZ.out.1.frozen 9
        have lb : b < wy.heap.size := HZ.out.1.lt
        dsimp only
        go_wp2
        obtain ⟨z1, z2⟩ := zfin HZ.out.1 HZ.out.2.2 H1.out.2.2 Pe.zero
        refine bodyPost_ret (results_row2 (P := Tryz.prog) (fn := Tryz.f22) rfl _ _ b (eCells Pe.zero) _ rfl z1 Tryz.underlying29 rfl infoEntryN) rfl ⟨?_, z2⟩
        rw [HF3.out]; rfl
      have HF3 := Lib.hid (show F = (y, 0) by rw [HY.out, if_pos ⟨hf, hll⟩])
      have q3 : ((bs (Pe.line y)).toList == (bs l).toList) = true := by rw [bs_beq]; simpa using hll
      have q4 : ((bs (Pe.line y)).toList != (bs l).toList) = false := by rw [bne, q3]; rfl
      clear hf hll
      go_wp2_with fail
      refine HWC.out.mono ?_
      rintro e wy ⟨rfl, hby⟩
      have HZ := Lib.hid (And.intro (HZ0.out.1.below hby HZ0.out.1.lt) (And.intro (HZ0.out.2.1.below hby HZ0.out.2.1.lt) (HZ0.out.2.2.trans (hby.mono HZ0.out.2.2.size))))
      clear hby
      clear c0 c1 c2 c3 c4 c5 c6 c7 c8 c9
      have c0 : wy.cell? ⟨g, 0, none⟩ = some (.int .i64 y.day) := HZ.out.2.1.cell 0
      have c1 : wy.cell? ⟨g, 1, none⟩ = some (.int .u8 (y.kind : Int)) := HZ.out.2.1.cell 1
      have c2 : wy.cell? ⟨g, 2, none⟩ = some (.int .i64 y.since) := HZ.out.2.1.cell 2
      have c3 : wy.cell? ⟨g, 3, none⟩ = some (.int .i64 y.til) := HZ.out.2.1.cell 3
      have c4 : wy.cell? ⟨g, 4, none⟩ = some (.int .i64 y.person) := HZ.out.2.1.cell 4
      have c5 : wy.cell? ⟨g, 5, none⟩ = some (.int .i64 y.place) := HZ.out.2.1.cell 5
      have c6 : wy.cell? ⟨g, 6, none⟩ = some (.int .i64 y.other) := HZ.out.2.1.cell 6
      have c7 : wy.cell? ⟨g, 7, none⟩ = some (.int .i64 y.at_) := HZ.out.2.1.cell 7
      have c8 : wy.cell? ⟨g, 8, none⟩ = some (.int .i64 y.order) := HZ.out.2.1.cell 8
      have c9 : wy.cell? ⟨g, 9, none⟩ = some (.string (bs y.name)) := HZ.out.2.1.cell 9
      have r0 : wy.cell? ⟨b, 0, none⟩ = some (.int .i64 Pe.zero.day) := HZ.out.1.cell 0
      have r1 : wy.cell? ⟨b, 1, none⟩ = some (.int .u8 (Pe.zero.kind : Int)) := HZ.out.1.cell 1
      have r2 : wy.cell? ⟨b, 2, none⟩ = some (.int .i64 Pe.zero.since) := HZ.out.1.cell 2
      have r3 : wy.cell? ⟨b, 3, none⟩ = some (.int .i64 Pe.zero.til) := HZ.out.1.cell 3
      have r4 : wy.cell? ⟨b, 4, none⟩ = some (.int .i64 Pe.zero.person) := HZ.out.1.cell 4
      have r5 : wy.cell? ⟨b, 5, none⟩ = some (.int .i64 Pe.zero.place) := HZ.out.1.cell 5
      have r6 : wy.cell? ⟨b, 6, none⟩ = some (.int .i64 Pe.zero.other) := HZ.out.1.cell 6
      have r7 : wy.cell? ⟨b, 7, none⟩ = some (.int .i64 Pe.zero.at_) := HZ.out.1.cell 7
      have r8 : wy.cell? ⟨b, 8, none⟩ = some (.int .i64 Pe.zero.order) := HZ.out.1.cell 8
      have r9 : wy.cell? ⟨b, 9, none⟩ = some (.string (bs Pe.zero.name)) := HZ.out.1.cell 9
      have f0 := HZ.out.1.frozen 0
      have f1 := HZ.out.1.frozen 1
      have f2 := HZ.out.1.frozen 2
      have f3 := HZ.out.1.frozen 3
      have f4 := HZ.out.1.frozen 4
      have f5 := HZ.out.1.frozen 5
      have f6 := HZ.out.1.frozen 6
      have f7 := HZ.out.1.frozen 7
      have f8 := HZ.out.1.frozen 8
      have f9 := HZ.out.1.frozen 9
      have lb : b < wy.heap.size := HZ.out.1.lt
      dsimp only
      go_wp2
      obtain ⟨z1, z2⟩ := zfin HZ.out.1 HZ.out.2.2 H1.out.2.2 y
      refine bodyPost_ret (results_row2 (P := Tryz.prog) (fn := Tryz.f22) rfl _ _ b (eCells y) _ rfl z1 Tryz.underlying29 rfl infoEntryN) rfl ⟨?_, z2⟩
      rw [HF3.out]; rfl
    have hd1 : decide ((i : Int) < (C : Int)) = true := by simp; omega
    go_wp2_with fail
    refine (rword_calls m (by have := hR.out.2.2.2.2.1; omega) wr').mono ?_
    rintro e wa ⟨rfl, hba⟩
    have HA := Lib.hid (And.intro (hR.out.1.below hba hR.out.1.lt) (And.intro (hR.out.2.1.below hba hR.out.2.1.lt) (And.intro (hR.out.2.2.1.trans (hba.mono hR.out.2.2.1.size)) (And.intro (own_below hR.out.2.2.2.1 hba) (Nat.le_trans hR.out.2.2.2.2.2.2.2 hba.size)))))
    clear hba
    dsimp only
    go_wp2_with fail
    refine (rnumber_calls (Pe.cut1 m).1 (by have := (Pe.cut1_le m).1; have := hR.out.2.2.2.2.1; omega) wa).mono ?_
    rintro e wa' ⟨rfl, rfl⟩
    obtain ⟨v, hv⟩ : ∃ v, v = Pe.rnum (Pe.cut1 m).1 := ⟨_, rfl⟩
    rw [← hv]
    have HV := Lib.hid hv
    clear hv
    dsimp only
    go_wp2_with (at_builtin; refine wpList_append_lies _ rfl _ _ 86 rfl B 3 i0 _ 1 8 Tryz.underlying86 HI0.out.1 HI0.out.2.1 HI0.out.2.2.1 HI0.out.2.2.2 (by rfl) (by decide) (.slice A i cap) i (iRow ns) rfl (own_below HA.out.2.2.2.1 ((Below.refl _ wa').alloc (Nat.le_refl _) _)) ⟨wa'.heap.size, 0, none⟩ 1 1 [.int .i64 v] rfl rfl (World.news_of_block (cs := #[.int .i64 v]) (t := 3) (fr := (0, 0)) (heap_alloc_new wa' _)) ?o1 (by decide) ?o2 ?o3 ?o4 _ rfl ?_)
    case o1 => simp [Value.oneCell']
    case o2 => simp only [maxLen]; omega
    case o3 => omega
    case o4 => have := HA.out.2.2.2.2; simp; omega
    intro gn cn wb hownb hgrb _ hltb
    have hgB := H5.out.2.2.2.1
    have HBb := Lib.hid (And.intro ((HA.out.1.alloc _).grown hgrb (own_low (own_below HA.out.2.2.2.1 ((Below.refl _ wa').alloc (Nat.le_refl _) (.cells #[.int .i64 v] 3))) (by have := H5.out.2.2.2.2.2.2; omega))) (And.intro ((HA.out.2.1.alloc _).grown hgrb (own_low (own_below HA.out.2.2.2.1 ((Below.refl _ wa').alloc (Nat.le_refl _) (.cells #[.int .i64 v] 3))) hgB)) (And.intro ((HA.out.2.2.1.alloc HA.out.2.2.1.size _).grown hgrb (HA.out.2.2.1.alloc HA.out.2.2.1.size _).size (fun k hk => by have h1 := (HA.out.2.2.2.1.lt k hk).1; have h2 := H1.out.2.2; have h3 := H5.out.2.2.2.2.2.2; omega)) (And.intro hownb (Nat.le_trans HA.out.2.2.2.2 (Nat.le_trans (by simp) hgrb.size))))))
    clear hownb hgrb hltb hgB
    go_wp2
    go_roundg (gk - 1)
    case measure => omega
    case rel =>
      refine ⟨i + 1, some ⟨gn, 0, none⟩, cn, ns ++ [v], (Pe.cut1 m).2, rfl, rfl, by go_num, by omega, Lib.hid ⟨HBb.out.1, HBb.out.2.1, HBb.out.2.2.1, ?_, ?_, ?_, ?_, HBb.out.2.2.2.2⟩⟩
      · rw [show iRow (ns ++ [v]) = iRow ns ++ [.int .i64 v] by simp [iRow]]
        exact HBb.out.2.2.2.1
      · have h1 := (Pe.cut1_le m).2; have h2 := hR.out.2.2.2.2.1; omega
      · have := hR.out.2.2.2.2.2.1; simp; omega
      · rw [hR.out.2.2.2.2.2.2.1, show C - i = (C - (i + 1)) + 1 by omega, Pe.rnums_step, HV.out]
        simp

end Go.Proofs.YtfalajomfcfliaaGreatDoor
