/-
  The reference's next.
-/
import Derived.Test.YtfalajomfcfliaaGreatDoorPr5
namespace Go.Proofs.YtfalajomfcfliaaGreatDoor
open Go.RowKit

theorem wrap_small (x : Int) (h0 : 0 ≤ x) (h1 : x ≤ 9223372036854775807) : IntKind.i64.wrap x = x := by
  rw [IntKind.wrap_i64]; omega
set_option maxRecDepth 1000000 in
set_option maxHeartbeats 4000000 in
theorem rnext_calls (A : Option Addr) (n c : Nat) (l : List Pe.Ent) (x : Pe.Ent) (w : World) (h : EntsAt w A n l) (hx : EOk x) :
    Calls Tryz.prog 37 #[.slice A n c, .agg (eCells x)] w fun e w' => e = .returned (.int .i64 (Pe.nextR l x)) ∧ Below w.heap.size w w' := by
  have hmost := h.most
  have hln := h.len
  obtain ⟨V, hV⟩ : ∃ V, V = Pe.nextR l x := ⟨_, rfl⟩
  obtain ⟨f, hf⟩ : ∃ f, f = Pe.formed x := ⟨_, rfl⟩
  obtain ⟨ld, hld⟩ : ∃ ld, ld = (l.getD (l.length - 1) Pe.zero).day := ⟨_, rfl⟩
  obtain ⟨nP, hnP⟩ : ∃ nP, nP = Pe.named l x.person := ⟨_, rfl⟩
  obtain ⟨nO, hnO⟩ : ∃ nO, nO = Pe.named l x.other := ⟨_, rfl⟩
  obtain ⟨hD, hhD⟩ : ∃ hD, hD = Pe.hasR l 3 x.person 0 := ⟨_, rfl⟩
  obtain ⟨o5, ho5⟩ : ∃ o5, o5 = Pe.orderedR l 5 x.order := ⟨_, rfl⟩
  obtain ⟨o6, ho6⟩ : ∃ o6, o6 = Pe.orderedR l 6 x.order := ⟨_, rfl⟩
  have hv : V = if f ≠ 0 then f
      else if 400 ≤ n then 2
      else if 0 < n ∧ x.day < ld then 7
      else if x.kind ≠ 1 ∧ ((x.person ≠ 0 ∧ nP = false) ∨ (x.other ≠ 0 ∧ nO = false)) then 5
      else if (x.kind = 3 ∧ hD = true) ∨ (x.kind = 5 ∧ o5 = true) then 6
      else if x.kind = 6 ∧ o5 = false then 5
      else if x.kind = 6 ∧ o6 = true then 6
      else 0 := by rw [hV, Pe.nextR, ← hf, ← hln, hld, ← hln, ← hnP, ← hnO, ← hhD, ← ho5, ← ho6]
  have hfc := fun w0 => rformed_calls x hx.name w0
  have hpc := fun w0 (hb : Below w.heap.size w w0) => named_calls A n c l x.person w0 (h.below hb)
  have hoc := fun w0 (hb : Below w.heap.size w w0) => named_calls A n c l x.other w0 (h.below hb)
  have hdc := fun w0 (hb : Below w.heap.size w w0) => has_calls A n c l 3 x.person 0 w0 (h.below hb)
  have h5c := fun w0 (hb : Below w.heap.size w w0) => ordered_calls A n c l 5 x.order w0 (h.below hb)
  have h6c := fun w0 (hb : Below w.heap.size w w0) => ordered_calls A n c l 6 x.order w0 (h.below hb)
  rw [← hf] at hfc
  rw [← hnP] at hpc
  rw [← hnO] at hoc
  rw [← hhD] at hdc
  rw [← ho5] at h5c
  rw [← ho6] at h6c
  rw [← hV]
  have hnl : 0 < n → ∃ y, l[n - 1]? = some y ∧ ld = y.day := fun hn => by
    have hx : l[n - 1]? = some (l[n - 1]'(by omega)) := List.getElem?_eq_getElem (by omega)
    exact ⟨_, hx, by rw [hld, List.getD_eq_getElem?_getD, show l.length - 1 = n - 1 from by omega, hx]; rfl⟩
  have HV := Lib.hid hv
  have H := Lib.hid (And.intro h (And.intro hx hnl))
  have HC := Lib.hid (And.intro hfc (And.intro hpc (And.intro hoc (And.intro hdc (And.intro h5c h6c)))))
  clear h hln hV hf hld hnP hnO hhD ho5 ho6 hv hfc hpc hoc hdc h5c h6c hnl hx
  go_enter Tryz.func37, Tryz.ntmps37
  unfold eCells
  go_upto_region 1 with fail
  obtain ⟨ex, hex⟩ : ∃ ex, ex = w.heap.size := ⟨_, rfl⟩
  obtain ⟨w0, hw0⟩ : ∃ w0, w0 = w.alloc (.cells (eCells x) 29) := ⟨_, rfl⟩
  have hB0 : Below w.heap.size w w0 := by rw [hw0]; exact (Below.refl _ w).alloc (Nat.le_refl _) _
  have hE0 : Blk w0 ex 29 (eCells x) := by rw [hw0, hex]; exact Blk.fresh _ _ _
  unfold eCells at hw0
  rw [← hw0, ← hex]
  have H0 := Lib.hid (And.intro hB0 (And.intro hE0 hex))
  clear hB0 hE0 hw0 hex
  have c0 : w0.cell? ⟨ex, 0, none⟩ = some (.int .i64 x.day) := H0.out.2.1.cell 0
  have c1 : w0.cell? ⟨ex, 1, none⟩ = some (.int .u8 (x.kind : Int)) := H0.out.2.1.cell 1
  have c2 : w0.cell? ⟨ex, 2, none⟩ = some (.int .i64 x.since) := H0.out.2.1.cell 2
  have c3 : w0.cell? ⟨ex, 3, none⟩ = some (.int .i64 x.til) := H0.out.2.1.cell 3
  have c4 : w0.cell? ⟨ex, 4, none⟩ = some (.int .i64 x.person) := H0.out.2.1.cell 4
  have c5 : w0.cell? ⟨ex, 5, none⟩ = some (.int .i64 x.place) := H0.out.2.1.cell 5
  have c6 : w0.cell? ⟨ex, 6, none⟩ = some (.int .i64 x.other) := H0.out.2.1.cell 6
  have c7 : w0.cell? ⟨ex, 7, none⟩ = some (.int .i64 x.at_) := H0.out.2.1.cell 7
  have c8 : w0.cell? ⟨ex, 8, none⟩ = some (.int .i64 x.order) := H0.out.2.1.cell 8
  have c9 : w0.cell? ⟨ex, 9, none⟩ = some (.string (bs x.name)) := H0.out.2.1.cell 9
  go_wp2_with fail
  refine (HC.out.1 w0).mono ?_
  rintro e w1 ⟨rfl, hB1⟩
  have H1 := Lib.hid (And.intro (H0.out.1.trans (hB1.mono H0.out.1.size)) (H0.out.2.1.below hB1 H0.out.2.1.lt))
  clear hB1
  clear c0 c1 c2 c3 c4 c5 c6 c7 c8 c9
  have c0 : w1.cell? ⟨ex, 0, none⟩ = some (.int .i64 x.day) := H1.out.2.cell 0
  have c1 : w1.cell? ⟨ex, 1, none⟩ = some (.int .u8 (x.kind : Int)) := H1.out.2.cell 1
  have c2 : w1.cell? ⟨ex, 2, none⟩ = some (.int .i64 x.since) := H1.out.2.cell 2
  have c3 : w1.cell? ⟨ex, 3, none⟩ = some (.int .i64 x.til) := H1.out.2.cell 3
  have c4 : w1.cell? ⟨ex, 4, none⟩ = some (.int .i64 x.person) := H1.out.2.cell 4
  have c5 : w1.cell? ⟨ex, 5, none⟩ = some (.int .i64 x.place) := H1.out.2.cell 5
  have c6 : w1.cell? ⟨ex, 6, none⟩ = some (.int .i64 x.other) := H1.out.2.cell 6
  have c7 : w1.cell? ⟨ex, 7, none⟩ = some (.int .i64 x.at_) := H1.out.2.cell 7
  have c8 : w1.cell? ⟨ex, 8, none⟩ = some (.int .i64 x.order) := H1.out.2.cell 8
  have c9 : w1.cell? ⟨ex, 9, none⟩ = some (.string (bs x.name)) := H1.out.2.cell 9
  dsimp only
  by_cases hf0 : f = 0
  case neg =>
    have hd1 : (f != 0) = true := by simpa using hf0
    have HF := Lib.hid hf0
    clear hf0
    go_wp2
    go_ret
    exact ⟨by rw [HV.out, if_pos HF.out]; rfl, H1.out.1⟩
  subst hf0
  by_cases h400 : 400 ≤ n
  · have hd2 : decide ((400 : Int) ≤ (n : Int)) = true := by simp; omega
    have HF := Lib.hid h400
    clear h400
    go_wp2
    go_ret
    exact ⟨by rw [HV.out, if_neg (by simp), if_pos HF.out]; rfl, H1.out.1⟩
  have hd2 : decide ((400 : Int) ≤ (n : Int)) = false := by simp; omega
  have H400 := Lib.hid h400
  clear h400
  obtain ⟨tb, htb⟩ : ∃ tb, tb = (decide (0 < n) && decide (x.day < ld)) := ⟨_, rfl⟩
  have HTB := Lib.hid htb
  clear htb
  go_upto_region 6 with fail
  go_cut [33] (fun s33 wx => s33 = .bool tb ∧ Below w1.heap.size w1 wx)
  case first =>
    by_cases hn0 : 0 < n
    · have hd3 : decide ((0 : Int) < (n : Int)) = true := by simp; omega
      have hd3' : decide (0 < n) = true := by simpa using hn0
      obtain ⟨y, hy, rfl⟩ := H.out.2.2 hn0
      obtain ⟨y', ad, hy', rfl, hok, hcw⟩ := (H.out.1.below H1.out.1).one (i := n - 1) (by omega)
      obtain rfl : y = y' := by rw [hy] at hy'; injection hy'
      have hwr : IntKind.i64.wrap ((n : Int) - 1) = (n : Int) - 1 := wrap_small _ (by omega) (by omega)
      have hnn : ((n : Int) - 1) = ((n - 1 : Nat) : Int) := by omega
      have g0 : w1.cell? (ad.add ((n - 1) * 10)) = some (.int .i64 y.day) := hcw 0 _ rfl
      have g1 : w1.cell? ⟨(ad.add ((n - 1) * 10)).block, (ad.add ((n - 1) * 10)).off + 1, none⟩ = some (.int .u8 (y.kind : Int)) := hcw 1 _ rfl
      have g2 : w1.cell? ⟨(ad.add ((n - 1) * 10)).block, (ad.add ((n - 1) * 10)).off + 2, none⟩ = some (.int .i64 y.since) := hcw 2 _ rfl
      have g3 : w1.cell? ⟨(ad.add ((n - 1) * 10)).block, (ad.add ((n - 1) * 10)).off + 3, none⟩ = some (.int .i64 y.til) := hcw 3 _ rfl
      have g4 : w1.cell? ⟨(ad.add ((n - 1) * 10)).block, (ad.add ((n - 1) * 10)).off + 4, none⟩ = some (.int .i64 y.person) := hcw 4 _ rfl
      have g5 : w1.cell? ⟨(ad.add ((n - 1) * 10)).block, (ad.add ((n - 1) * 10)).off + 5, none⟩ = some (.int .i64 y.place) := hcw 5 _ rfl
      have g6 : w1.cell? ⟨(ad.add ((n - 1) * 10)).block, (ad.add ((n - 1) * 10)).off + 6, none⟩ = some (.int .i64 y.other) := hcw 6 _ rfl
      have g7 : w1.cell? ⟨(ad.add ((n - 1) * 10)).block, (ad.add ((n - 1) * 10)).off + 7, none⟩ = some (.int .i64 y.at_) := hcw 7 _ rfl
      have g8 : w1.cell? ⟨(ad.add ((n - 1) * 10)).block, (ad.add ((n - 1) * 10)).off + 8, none⟩ = some (.int .i64 y.order) := hcw 8 _ rfl
      have g9 : w1.cell? ⟨(ad.add ((n - 1) * 10)).block, (ad.add ((n - 1) * 10)).off + 9, none⟩ = some (.string (bs y.name)) := hcw 9 _ rfl
      clear hcw hok hy hy'
      rw [hnn] at hwr
      cases hdl : decide (x.day < y.day)
      all_goals
        go_quiet (fail)
        go_wp2_with fail
        go_meet
        exact ⟨by rw [HTB.out, hd3', hdl]; rfl, below_drewN _ _⟩
    · have hd3 : decide ((0 : Int) < (n : Int)) = false := by simp; omega
      have hd3' : decide (0 < n) = false := by simpa using hn0
      go_quiet (fail)
      go_wp2_with fail
      go_meet
      exact ⟨by rw [HTB.out, hd3']; rfl, below_drewN _ _⟩
  case rest =>
  obtain ⟨rfl, hB2⟩ := hcut
  obtain ⟨wB, rfl⟩ : ∃ wB : World, wB = wc := ⟨_, rfl⟩
  have H2 := Lib.hid (And.intro (H1.out.1.trans (hB2.mono H1.out.1.size)) (H1.out.2.below hB2 H1.out.2.lt))
  clear hB2
  clear c0 c1 c2 c3 c4 c5 c6 c7 c8 c9
  apply_assumption
  cases tb
  case true =>
    go_wp2
    go_ret
    refine ⟨?_, H2.out.1⟩
    have h1 := HTB.out
    rw [eq_comm, Bool.and_eq_true, decide_eq_true_eq, decide_eq_true_eq] at h1
    rw [HV.out, if_neg (by simp), if_neg H400.out, if_pos h1]; rfl
  have htb2 := HTB.out
  rw [eq_comm, Bool.and_eq_false_iff, decide_eq_false_iff_not, decide_eq_false_iff_not] at htb2
  have hv2 := HV.out
  rw [if_neg (by simp), if_neg H400.out, if_neg (fun hh => htb2.elim (fun h => h hh.1) (fun h => h hh.2))] at hv2
  have HV2 := Lib.hid hv2
  clear htb2 hv2 HTB
  have c0 : wB.cell? ⟨ex, 0, none⟩ = some (.int .i64 x.day) := H2.out.2.cell 0
  have c1 : wB.cell? ⟨ex, 1, none⟩ = some (.int .u8 (x.kind : Int)) := H2.out.2.cell 1
  have c2 : wB.cell? ⟨ex, 2, none⟩ = some (.int .i64 x.since) := H2.out.2.cell 2
  have c3 : wB.cell? ⟨ex, 3, none⟩ = some (.int .i64 x.til) := H2.out.2.cell 3
  have c4 : wB.cell? ⟨ex, 4, none⟩ = some (.int .i64 x.person) := H2.out.2.cell 4
  have c5 : wB.cell? ⟨ex, 5, none⟩ = some (.int .i64 x.place) := H2.out.2.cell 5
  have c6 : wB.cell? ⟨ex, 6, none⟩ = some (.int .i64 x.other) := H2.out.2.cell 6
  have c7 : wB.cell? ⟨ex, 7, none⟩ = some (.int .i64 x.at_) := H2.out.2.cell 7
  have c8 : wB.cell? ⟨ex, 8, none⟩ = some (.int .i64 x.order) := H2.out.2.cell 8
  have c9 : wB.cell? ⟨ex, 9, none⟩ = some (.string (bs x.name)) := H2.out.2.cell 9
  go_wp2_with fail
  refine (HC.out.2.1 wB H2.out.1).mono ?_
  rintro e w1 ⟨rfl, rfl⟩
  dsimp only
  go_wp2_with fail
  refine (HC.out.2.2.1 wB H2.out.1).mono ?_
  rintro e w1 ⟨rfl, rfl⟩
  dsimp only
  obtain ⟨vb, hvb⟩ : ∃ vb, vb = ((x.kind : Int) != 1 && ((x.person != 0 && !nP) || (x.other != 0 && !nO))) := ⟨_, rfl⟩
  have HVB := Lib.hid hvb
  clear hvb
  go_upto_region 10 with fail
  go_cut [62] (fun s62 wx => s62 = .bool vb ∧ wx = wB)
  case first =>
    cases h1 : ((x.kind : Int) != 1)
    · go_wp2
      go_meet
      exact ⟨by rw [HVB.out, h1]; rfl, rfl⟩
    · cases h2 : (x.person != 0) <;> cases nP <;> cases h4 : (x.other != 0) <;> cases nO
      all_goals
        go_wp2
        go_meet
        exact ⟨by rw [HVB.out]; simp [h1, h2, h4], rfl⟩
  case rest =>
  obtain ⟨rfl, hwc⟩ := hcut
  have hwc' := hwc.symm
  subst hwc'
  clear hwc
  apply_assumption
  have hvb' : vb = true ↔ (x.kind ≠ 1 ∧ ((x.person ≠ 0 ∧ nP = false) ∨ (x.other ≠ 0 ∧ nO = false))) := by
    rw [HVB.out]
    simp only [Bool.and_eq_true, Bool.or_eq_true, bne_iff_ne, Bool.not_eq_true']
    have : ((x.kind : Int) ≠ 1) ↔ x.kind ≠ 1 := by omega
    rw [this]
  have HGO := Lib.hid hvb'
  clear hvb' HVB
  cases vb
  case true =>
    go_wp2
    go_ret
    exact ⟨by rw [HV2.out, if_pos (HGO.out.1 (by first | trivial | rfl))]; rfl, H2.out.1⟩
  have hv3 := HV2.out
  rw [if_neg (fun h => by have := HGO.out.2 h; cases this)] at hv3
  have HV3 := Lib.hid hv3
  clear hv3 HGO HV2
  go_wp2_with fail
  refine (HC.out.2.2.2.1 wB H2.out.1).mono ?_
  rintro e w1 ⟨rfl, rfl⟩
  dsimp only
  go_wp2_with fail
  refine (HC.out.2.2.2.2.1 wB H2.out.1).mono ?_
  rintro e w1 ⟨rfl, rfl⟩
  dsimp only
  go_wp2_with fail
  refine (HC.out.2.2.2.2.2 wB H2.out.1).mono ?_
  rintro e w1 ⟨rfl, rfl⟩
  dsimp only
  obtain hk | hk | hk | ⟨hk3, hk5, hk6⟩ : x.kind = 3 ∨ x.kind = 5 ∨ x.kind = 6 ∨ (x.kind ≠ 3 ∧ x.kind ≠ 5 ∧ x.kind ≠ 6) := by omega
  · have q3 : ((x.kind : Int) == 3) = true := by rw [hk]; rfl
    have q5 : ((x.kind : Int) == 5) = false := by rw [hk]; rfl
    have q6 : ((x.kind : Int) == 6) = false := by rw [hk]; rfl
    have HK := Lib.hid hk
    clear hk
    cases hD
    all_goals
      go_wp2
      go_ret
      refine ⟨?_, H2.out.1⟩
      rw [HV3.out, HK.out]; simp
  · have q3 : ((x.kind : Int) == 3) = false := by rw [hk]; rfl
    have q5 : ((x.kind : Int) == 5) = true := by rw [hk]; rfl
    have q6 : ((x.kind : Int) == 6) = false := by rw [hk]; rfl
    have HK := Lib.hid hk
    clear hk
    cases o5
    all_goals
      go_wp2
      go_ret
      refine ⟨?_, H2.out.1⟩
      rw [HV3.out, HK.out]; simp
  · have q3 : ((x.kind : Int) == 3) = false := by rw [hk]; rfl
    have q5 : ((x.kind : Int) == 5) = false := by rw [hk]; rfl
    have q6 : ((x.kind : Int) == 6) = true := by rw [hk]; rfl
    have HK := Lib.hid hk
    clear hk
    cases o5 <;> cases o6
    all_goals
      go_wp2
      go_ret
      refine ⟨?_, H2.out.1⟩
      rw [HV3.out, HK.out]; simp
  · have q3 : ((x.kind : Int) == 3) = false := by simp; omega
    have q5 : ((x.kind : Int) == 5) = false := by simp; omega
    have q6 : ((x.kind : Int) == 6) = false := by simp; omega
    have HK := Lib.hid (And.intro hk3 (And.intro hk5 hk6))
    clear hk3 hk5 hk6
    go_wp2
    go_ret
    refine ⟨?_, H2.out.1⟩
    rw [HV3.out]; simp [HK.out.1, HK.out.2.1, HK.out.2.2]

end Go.Proofs.YtfalajomfcfliaaGreatDoor
