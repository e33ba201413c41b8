/-
  The reference's SameInts, SamePairs, dwelling, Dwellers and Pairs, walked.
-/
import Derived.Test.YtnphlekailodkaaGreatDoorFr1
import Derived.Deep.QuietTactic
import Derived.BigQuiet
import Derived.Test.YtnphlekailodkaaGreatDoorOrd
namespace Go.Proofs.YtnphlekailodkaaGreatDoor
open Go.RowKit

theorem NumsAt.grown {w w' : World} {A : Option Addr} {n : Nat} {l : List Int} {row : Option Nat} (h : NumsAt w A n l) (hg : w.grownBy w' row) (hne : ∀ ad, A = some ad → some ad.block ≠ row) : NumsAt w' A n l := by
  refine ⟨h.len, h.at_.imp id ?_⟩
  rintro ⟨ad, hA, hl, hc⟩
  refine ⟨ad, hA, Nat.lt_of_lt_of_le hl hg.size, fun i x hi => ?_⟩
  have hb : (ad.add i).block = ad.block := by unfold Addr.add; split <;> rfl
  rw [hg.cell_far _ (by rw [hb]; exact hl) (by rw [hb]; exact hne ad hA)]
  exact hc i x hi
set_option maxRecDepth 1000000 in
set_option maxHeartbeats 4000000 in
theorem rSameInts_calls (A B : Option Addr) (n c m c' : Nat) (l r : List Int) (w : World) (h : NumsAt w A n l) (h' : NumsAt w B m r) (hn : n ≤ 1000000) :
    Calls Tryz.prog 22 #[.slice A n c, .slice B m c'] w fun e w' => e = .returned (.bool (decide (l = r))) ∧ Below w.heap.size w w' := by
  have H := Lib.hid (And.intro h h')
  obtain ⟨V, hV⟩ : ∃ V, V = decide (l = r) := ⟨_, rfl⟩
  rw [← hV]
  have HV := Lib.hid hV
  clear h h' hV
  go_enter Tryz.func22, Tryz.ntmps22
  by_cases hnm : n = m
  case neg =>
    have hd1 : ((n : Int) != (m : Int)) = true := by simp; omega
    have HN := Lib.hid hnm
    clear hnm
    go_wp2
    go_ret
    refine ⟨?_, Below.refl _ _⟩
    have hv : V = false := by
      rw [HV.out]
      exact decide_eq_false (fun e => HN.out (by rw [H.out.1.len, H.out.2.len, e]))
    rw [hv]; rfl
  subst hnm
  have hd1 : ((n : Int) != (n : Int)) = false := by simp
  go_wp2_with fail
  go_loopg [5] n (fun q s5 wr => ∃ i : Nat, s5 = .int .i64 (i : Int) ∧ i + q = n ∧ Hid (Below w.heap.size w wr ∧ l.take i = r.take i))
  case atStart => exact ⟨0, by go_num, by omega, Lib.hid ⟨Below.refl _ _, by simp⟩⟩
  case round =>
    obtain ⟨i, rfl, hi, hR⟩ := hrel
    by_cases hgo : i < n
    case neg =>
      have hd1 : decide ((i : Int) < (n : Int)) = false := by simp; omega
      go_wp2
      go_ret
      refine ⟨?_, hR.out.1⟩
      have := hR.out.2
      have h1 := H.out.1.len
      have h2 := H.out.2.len
      rw [List.take_of_length_le (by omega), List.take_of_length_le (by omega)] at this
      rw [HV.out, decide_eq_true this]; rfl
    have hd1 : decide ((i : Int) < (n : Int)) = true := by simp; omega
    obtain ⟨x, ad, hx, rfl, hcx⟩ := (H.out.1.below hR.out.1).one hgo
    obtain ⟨y, bd, hy, rfl, hcy⟩ := (H.out.2.below hR.out.1).one hgo
    have HX := Lib.hid (And.intro hx hy)
    clear hx hy
    obtain ⟨E, hE⟩ : ∃ E, E = !decide (x = y) := ⟨_, rfl⟩
    have hq : (x != y) = E := by rw [hE, bne, int_beq]
    have HE := Lib.hid hE
    clear hE
    cases E
    · have HXY := Lib.hid (show x = y by have := HE.out; simpa using this.symm)
      go_upto_region 6 with fail
      go_quiet (fail)
      go_wp2
      go_roundg (gk - 1)
      case measure => omega
      case rel =>
        refine ⟨i + 1, by go_num, by omega, Lib.hid ⟨hR.out.1.trans ((below_drewN _ _).mono hR.out.1.size), ?_⟩⟩
        rw [List.take_add_one, List.take_add_one, hR.out.2, HX.out.1, HX.out.2, HXY.out]
    · have HXY := Lib.hid (show x ≠ y by have := HE.out; simpa using this.symm)
      go_upto_region 6 with fail
      go_quiet (fail)
      go_wp2
      go_ret
      refine ⟨?_, hR.out.1.trans ((below_drewN _ _).mono hR.out.1.size)⟩
      have hv : V = false := by
        rw [HV.out]
        exact decide_eq_false (fun e => HXY.out (by have h1 := HX.out.1; rw [e, HX.out.2] at h1; injection h1 with h1; exact h1.symm))
      rw [hv]; rfl
set_option maxRecDepth 1000000 in
set_option maxHeartbeats 4000000 in
theorem rSamePairs_calls (A B : Option Addr) (n c m c' : Nat) (l r : List Pe.Pair) (w : World) (h : PairsAt w A n l) (h' : PairsAt w B m r) (hn : n ≤ 1000000) :
    Calls Tryz.prog 29 #[.slice A n c, .slice B m c'] w fun e w' => e = .returned (.bool (decide (l = r))) ∧ Below w.heap.size w w' := by
  have H := Lib.hid (And.intro h h')
  obtain ⟨V, hV⟩ : ∃ V, V = decide (l = r) := ⟨_, rfl⟩
  rw [← hV]
  have HV := Lib.hid hV
  clear h h' hV
  go_enter Tryz.func29, Tryz.ntmps29
  by_cases hnm : n = m
  case neg =>
    have hd1 : ((n : Int) != (m : Int)) = true := by simp; omega
    have HN := Lib.hid hnm
    clear hnm
    go_wp2
    go_ret
    refine ⟨?_, Below.refl _ _⟩
    have hv : V = false := by
      rw [HV.out]
      exact decide_eq_false (fun e => HN.out (by rw [H.out.1.len, H.out.2.len, e]))
    rw [hv]; rfl
  subst hnm
  have hd1 : ((n : Int) != (n : Int)) = false := by simp
  go_wp2_with fail
  go_loopg [5] n (fun q s5 wr => ∃ i : Nat, s5 = .int .i64 (i : Int) ∧ i + q = n ∧ Hid (Below w.heap.size w wr ∧ l.take i = r.take i))
  case atStart => exact ⟨0, by go_num, by omega, Lib.hid ⟨Below.refl _ _, by simp⟩⟩
  case round =>
    obtain ⟨i, rfl, hi, hR⟩ := hrel
    by_cases hgo : i < n
    case neg =>
      have hd1 : decide ((i : Int) < (n : Int)) = false := by simp; omega
      go_wp2
      go_ret
      refine ⟨?_, hR.out.1⟩
      have := hR.out.2
      have h1 := H.out.1.len
      have h2 := H.out.2.len
      rw [List.take_of_length_le (by omega), List.take_of_length_le (by omega)] at this
      rw [HV.out, decide_eq_true this]; rfl
    have hd1 : decide ((i : Int) < (n : Int)) = true := by simp; omega
    obtain ⟨x, ad, hx, rfl, hcx⟩ := (H.out.1.below hR.out.1).one hgo
    obtain ⟨y, bd, hy, rfl, hcy⟩ := (H.out.2.below hR.out.1).one hgo
    have HX := Lib.hid (And.intro hx hy)
    clear hx hy
    obtain ⟨E, hE⟩ : ∃ E, E = !decide (x = y) := ⟨_, rfl⟩
    have p0 : wr.cell? (ad.add (i * 2)) = some (.int .i64 x.1) := hcx 0 _ rfl
    have p1 : wr.cell? ⟨(ad.add (i * 2)).block, (ad.add (i * 2)).off + 1, none⟩ = some (.int .i64 x.2) := hcx 1 _ rfl
    have q0 : wr.cell? (bd.add (i * 2)) = some (.int .i64 y.1) := hcy 0 _ rfl
    have q1 : wr.cell? ⟨(bd.add (i * 2)).block, (bd.add (i * 2)).off + 1, none⟩ = some (.int .i64 y.2) := hcy 1 _ rfl
    clear hcx hcy
    have hq : ∀ w0, (binOp .neq 28 (.agg #[.int .i64 x.1, .int .i64 x.2]) (.agg #[.int .i64 y.1, .int .i64 y.2])).run Tryz.prog w0 = .ok (.bool E) w0 := fun w0 => by rw [hE]; exact neq_pair x y w0
    have HE := Lib.hid hE
    clear hE
    cases E
    · have HXY := Lib.hid (show x = y by have := HE.out; simpa using this.symm)
      go_upto_region 6 with fail
      go_quiet (fail)
      go_wp2
      go_roundg (gk - 1)
      case measure => omega
      case rel =>
        refine ⟨i + 1, by go_num, by omega, Lib.hid ⟨hR.out.1.trans ((below_drewN _ _).mono hR.out.1.size), ?_⟩⟩
        rw [List.take_add_one, List.take_add_one, hR.out.2, HX.out.1, HX.out.2, HXY.out]
    · have HXY := Lib.hid (show x ≠ y by have := HE.out; simpa using this.symm)
      go_upto_region 6 with fail
      go_quiet (fail)
      go_wp2
      go_ret
      refine ⟨?_, hR.out.1.trans ((below_drewN _ _).mono hR.out.1.size)⟩
      have hv : V = false := by
        rw [HV.out]
        exact decide_eq_false (fun e => HXY.out (by have h1 := HX.out.1; rw [e, HX.out.2] at h1; injection h1 with h1; exact h1.symm))
      rw [hv]; rfl

set_option maxRecDepth 1000000 in
set_option maxHeartbeats 4000000 in
theorem rdwelling_calls (A : Option Addr) (n c : Nat) (l : List Pe.Ent) (w : World) (h : EntsAt w A n l) (hn : n ≤ 100000) :
    Calls Tryz.prog 62 #[.slice A n c] w fun e w' => ∃ v, e = .returned v ∧ w'.ownsRow w.heap.size 3 1 v (Pe.dwellingR l).length (nRow (Pe.dwellingR l)) ∧ Below w.heap.size w w' := by
  have H := Lib.hid h
  obtain ⟨V, hV⟩ : ∃ V, V = Pe.dwellingR l := ⟨_, rfl⟩
  rw [← hV]
  unfold Pe.dwellingR at hV
  have HV := Lib.hid hV
  clear h hV
  go_enter Tryz.func62, Tryz.ntmps62
  go_wp2_with fail
  go_loopg [3, 4] n (fun q s3 s4 wr => ∃ (i : Nat) (o : List Int) (A' : Option Addr) (n' c' : Nat), s3 = .slice A' n' c' ∧ s4 = .int .i64 (i : Int) ∧ i + q = n ∧ n' ≤ i ∧ Hid (n' = o.length ∧ Below w.heap.size w wr ∧ wr.ownsRow w.heap.size 3 1 (.slice A' n' c') n' (nRow o) ∧ o = Pe.gather (·.person) (fun x => x.kind == 2) (l.take i)))
  case atStart => exact ⟨0, [], none, 0, 0, rfl, rfl, by omega, by omega, Lib.hid ⟨rfl, Below.refl _ _, World.ownsRow_nil _ _ _ _, rfl⟩⟩
  case round =>
    obtain ⟨i, o, A', n', c', rfl, rfl, hi, hn', hR⟩ := hrel
    have hE := Lib.hid (H.out.below hR.out.2.1)
    by_cases hgo : i < n
    case neg =>
      have hd1 : decide ((i : Int) < (n : Int)) = false := by simp; omega
      go_wp2
      go_ret
      refine ⟨_, rfl, ?_, hR.out.2.1⟩
      have h1 := hR.out.2.2.2
      rw [List.take_of_length_le (by have := H.out.len; omega), ← HV.out] at h1
      rw [← h1, ← hR.out.1]
      exact hR.out.2.2.1
    have hd1 : decide ((i : Int) < (n : Int)) = true := by simp; omega
    obtain ⟨x, ad, hx, rfl, hok, hcw⟩ := hE.out.one hgo
    have g0 : wr.cell? (ad.add (i * 10)) = some (.int .i64 x.day) := hcw 0 _ rfl
    have g1 : wr.cell? ⟨(ad.add (i * 10)).block, (ad.add (i * 10)).off + 1, none⟩ = some (.int .u8 (x.kind : Int)) := hcw 1 _ rfl
    have g2 : wr.cell? ⟨(ad.add (i * 10)).block, (ad.add (i * 10)).off + 2, none⟩ = some (.int .i64 x.since) := hcw 2 _ rfl
    have g3 : wr.cell? ⟨(ad.add (i * 10)).block, (ad.add (i * 10)).off + 3, none⟩ = some (.int .i64 x.til) := hcw 3 _ rfl
    have g4 : wr.cell? ⟨(ad.add (i * 10)).block, (ad.add (i * 10)).off + 4, none⟩ = some (.int .i64 x.person) := hcw 4 _ rfl
    have g5 : wr.cell? ⟨(ad.add (i * 10)).block, (ad.add (i * 10)).off + 5, none⟩ = some (.int .i64 x.place) := hcw 5 _ rfl
    have g6 : wr.cell? ⟨(ad.add (i * 10)).block, (ad.add (i * 10)).off + 6, none⟩ = some (.int .i64 x.other) := hcw 6 _ rfl
    have g7 : wr.cell? ⟨(ad.add (i * 10)).block, (ad.add (i * 10)).off + 7, none⟩ = some (.int .i64 x.at_) := hcw 7 _ rfl
    have g8 : wr.cell? ⟨(ad.add (i * 10)).block, (ad.add (i * 10)).off + 8, none⟩ = some (.int .i64 x.order) := hcw 8 _ rfl
    have g9 : wr.cell? ⟨(ad.add (i * 10)).block, (ad.add (i * 10)).off + 9, none⟩ = some (.string (bs x.name)) := hcw 9 _ rfl
    have HX := Lib.hid hx
    clear hx hcw hok
    have k1 := nat_beq x.kind 2
    cases h1 : (x.kind == 2)
    · have q1 : ((x.kind : Int) == 2) = false := k1.trans h1
      have HQ := Lib.hid h1
      clear h1 k1
      go_wp2
      go_roundg (gk - 1)
      case measure => omega
      case rel => exact ⟨i + 1, o, A', n', c', rfl, by go_num, by omega, by omega, Lib.hid ⟨hR.out.1, hR.out.2.1, hR.out.2.2.1, by rw [gather_on HX.out HQ.out]; exact hR.out.2.2.2⟩⟩
    have q1 : ((x.kind : Int) == 2) = true := k1.trans h1
    have HQ := Lib.hid h1
    clear h1 k1
    obtain ⟨A2, cc2, hv2, hN2⟩ := own_nums hR.out.2.2.1 hR.out.1
    obtain ⟨rfl, rfl⟩ : A' = A2 ∧ c' = cc2 := by injection hv2 with e1 _ e3; exact ⟨e1, e3⟩
    have hac := radded_calls A' n' c' o x.person wr hN2 (by omega)
    have HAC := Lib.hid hac
    clear hac hN2 hv2
    go_wp2_with fail
    refine HAC.out.mono ?_
    rintro e w3 ⟨v, rfl, hown, hb3⟩
    have hle : (Pe.ins x.person o).length ≤ n' + 1 := by have := Pe.ins_length x.person o; have := hR.out.1; omega
    obtain ⟨n3, hn3⟩ : ∃ n3, n3 = (Pe.ins x.person o).length := ⟨_, rfl⟩
    rw [← hn3] at hown hle
    obtain ⟨A3, c3, rfl, _, _⟩ := own_shape hown
    have H3 := Lib.hid (And.intro (hR.out.2.1.trans (hb3.mono hR.out.2.1.size)) (And.intro (own_weaken hown hR.out.2.1.size) hn3))
    clear hb3 hown hn3
    clear g0 g1 g2 g3 g4 g5 g6 g7 g8 g9
    dsimp only
    go_wp2
    go_roundg (gk - 1)
    case measure => omega
    case rel =>
      refine ⟨i + 1, Pe.ins x.person o, A3, n3, c3, rfl, by go_num, by omega, by omega, Lib.hid ⟨H3.out.2.2, H3.out.1, H3.out.2.1, ?_⟩⟩
      rw [gather_put HX.out HQ.out, ← hR.out.2.2.2]

set_option maxRecDepth 1000000 in
set_option maxHeartbeats 4000000 in
theorem rDwellers_calls (A : Option Addr) (n c : Nat) (l : List Pe.Ent) (k d : Int) (w : World) (h : EntsAt w A n l) (hn : n ≤ 100000) :
    Calls Tryz.prog 28 #[.slice A n c, .int .i64 k, .int .i64 d] w fun e w' => ∃ v, e = .returned v ∧ w'.ownsRow w.heap.size 3 1 v (Pe.dwellersR l k d).length (nRow (Pe.dwellersR l k d)) ∧ Below w.heap.size w w' := by
  obtain ⟨i0, hi0, hz0, hz1, hz2⟩ := info_parts infoIntR
  have HI0 := Lib.hid (And.intro hi0 (And.intro hz0 (And.intro hz1 hz2)))
  clear hi0 hz0 hz1 hz2
  have H := Lib.hid h
  obtain ⟨V, hV⟩ : ∃ V, V = Pe.dwellersR l k d := ⟨_, rfl⟩
  rw [← hV]
  unfold Pe.dwellersR at hV
  have hdc := rdwelling_calls A n c l w h hn
  have hdl : (Pe.dwellingR l).length ≤ n := by rw [h.len]; exact Pe.gather_length _ _ _
  obtain ⟨ds, hds⟩ : ∃ ds, ds = Pe.dwellingR l := ⟨_, rfl⟩
  rw [← hds] at hV hdc hdl
  obtain ⟨m, hm⟩ : ∃ m, m = ds.length := ⟨_, rfl⟩
  rw [← hm] at hdc hdl
  have HP := Lib.hid (And.intro hdc (And.intro hm hV))
  have hlc := fun p w0 (hb : Below w.heap.size w w0) => rLives_calls A n c l (p, k) d w0 (H.out.below hb) hn
  unfold pCells at hlc
  have HLC := Lib.hid hlc
  clear h hdc hm hV hds hlc
  go_enter Tryz.func28, Tryz.ntmps28
  go_wp2_with fail
  refine HP.out.1.mono ?_
  rintro e w1 ⟨v, rfl, hown, hb1⟩
  obtain ⟨B, cB, rfl, hNA⟩ := own_nums hown HP.out.2.1
  have H1 := Lib.hid (And.intro hb1 hNA)
  have hBB : ∀ ad, B = some ad → ad.block < w1.heap.size ∨ ds = [] := fun ad e => by
    rcases hNA.at_ with h0 | ⟨ad', h1, h2, _⟩
    · exact .inr h0
    · rw [e] at h1; injection h1 with h1; rw [h1]; exact .inl h2
  obtain ⟨e1, he1⟩ : ∃ e1, e1 = w1.heap.size := ⟨_, rfl⟩
  have HB := Lib.hid (And.intro he1 hBB)
  have hwe : w.heap.size ≤ e1 := by rw [he1]; exact hb1.size
  clear hown hb1 hNA hBB he1
  dsimp only
  go_wp2_with fail
  go_loopg [8, 9, 10] m (fun q s8 s9 s10 wr => ∃ (i n' : Nat) (A' : Option Addr) (c' : Nat), s8 = .slice A' n' c' ∧ s9 = .int .i64 (i : Int) ∧ i + q = m ∧ n' ≤ i ∧ Hid (Below w.heap.size w wr ∧ NumsAt wr B m ds ∧ wr.ownsRow e1 3 1 (.slice A' n' c') n' (nRow ((ds.take i).filter fun p => Pe.lives l (p, k) d)) ∧ n' = ((ds.take i).filter fun p => Pe.lives l (p, k) d).length ∧ e1 ≤ wr.heap.size))
  case atStart => exact ⟨0, 0, none, 0, rfl, by go_num, by omega, by omega, Lib.hid ⟨H1.out.1, H1.out.2, World.ownsRow_nil _ _ _ _, rfl, by have := HB.out.1; omega⟩⟩
  case round =>
    obtain ⟨i, n', A', c', rfl, rfl, hi, hn', hR⟩ := hrel
    by_cases hgo : i < m
    case neg =>
      have hd1 : decide ((i : Int) < (m : Int)) = false := by simp; omega
      go_wp2
      go_ret
      refine ⟨_, rfl, ?_, hR.out.1⟩
      have h1 := hR.out.2.2.1
      have h2 := hR.out.2.2.2.1
      rw [List.take_of_length_le (by have := HP.out.2.1; omega), ← HP.out.2.2] at h1 h2
      rw [← h2]
      exact own_weaken h1 hwe
    have hd1 : decide ((i : Int) < (m : Int)) = true := by simp; omega
    obtain ⟨y, ad, hy, rfl, hcy⟩ := hR.out.2.1.one hgo
    have HYY := Lib.hid hy
    clear hy
    obtain ⟨E, hE⟩ : ∃ E, E = Pe.lives l (y, k) d := ⟨_, rfl⟩
    have hlc := HLC.out y wr hR.out.1
    rw [← hE] at hlc
    have HL := Lib.hid hlc
    have HE := Lib.hid hE
    clear hlc hE
    go_wp2_with fail
    refine HL.out.mono ?_
    rintro e w3 ⟨rfl, hb3⟩
    have H3 := Lib.hid (And.intro (hR.out.1.trans (hb3.mono hR.out.1.size)) (And.intro (hR.out.2.1.below hb3) (And.intro (own_below hR.out.2.2.1 hb3) (Nat.le_trans hR.out.2.2.2.2 hb3.size))))
    clear hb3 hcy
    dsimp only
    cases E
    · go_wp2
      go_roundg (gk - 1)
      case measure => omega
      case rel =>
        have q1 : ((ds.take (i + 1)).filter fun p => Pe.lives l (p, k) d) = ((ds.take i).filter fun p => Pe.lives l (p, k) d) := by
          rw [Pe.take_ge HYY.out, List.filter_append, List.filter_cons, if_neg (by rw [← HE.out]; simp)]; simp
        exact ⟨i + 1, n', A', c', rfl, by go_num, by omega, by omega, Lib.hid ⟨H3.out.1, H3.out.2.1, by rw [q1]; exact H3.out.2.2.1, by rw [q1]; exact hR.out.2.2.2.1, H3.out.2.2.2⟩⟩
    · obtain ⟨y', ad', hy', e9, hcy⟩ := H3.out.2.1.one hgo
      obtain rfl : y = y' := by have := HYY.out; rw [hy'] at this; injection this with this; exact this.symm
      obtain rfl : ad = ad' := by injection e9
      clear hy' e9
      go_wp2_with (at_builtin; refine wpList_append_lies _ rfl _ _ 42 rfl e1 3 i0 _ 1 8 Tryz.underlying42 HI0.out.1 HI0.out.2.1 HI0.out.2.2.1 HI0.out.2.2.2 (by rfl) (by decide) (.slice A' n' c') n' (nRow ((ds.take i).filter fun p => Pe.lives l (p, k) d)) rfl (own_below H3.out.2.2.1 ((Below.refl _ w3).alloc (Nat.le_refl _) _)) ⟨w3.heap.size, 0, none⟩ 1 1 [.int .i64 y] rfl rfl (World.news_of_block (cs := #[.int .i64 y]) (t := 3) (fr := (0, 0)) (heap_alloc_new w3 _)) ?o1 (by decide) ?o2 ?o3 ?o4 _ rfl ?_)
      case o1 => simp [Value.oneCell']
      case o2 => simp only [maxLen]; omega
      case o3 => omega
      case o4 => have := H3.out.2.2.2; simp; omega
      intro gn cn W2 hown hgr _ hlt
      have q1 : ((ds.take (i + 1)).filter fun p => Pe.lives l (p, k) d) = ((ds.take i).filter fun p => Pe.lives l (p, k) d) ++ [y] := by
        rw [Pe.take_ge HYY.out, List.filter_append, List.filter_cons, if_pos HE.out.symm]; simp
      have HA := Lib.hid (And.intro (show W2.ownsRow e1 3 1 (.slice (some ⟨gn, 0, none⟩) (n' + 1) cn) (n' + 1) (nRow ((ds.take (i + 1)).filter fun p => Pe.lives l (p, k) d)) by rw [q1, nRow_snoc]; exact hown) (And.intro ((H3.out.1.alloc H3.out.1.size _).grown hgr (H3.out.1.alloc H3.out.1.size _).size (fun z hz => by have := (H3.out.2.2.1.lt z hz).1; omega)) q1))
      have hPB : NumsAt W2 (some ad) m ds := (H3.out.2.1.below ((Below.refl _ w3).alloc (Nat.le_refl _) _)).grown hgr (fun a2 e2 e3 => by
        have h1 := (H3.out.2.2.1.lt _ e3.symm).1
        have h3 := HB.out.1
        rcases HB.out.2 a2 e2 with h2 | h2
        · omega
        · have := HYY.out; rw [h2] at this; simp at this)
      have hsz : e1 ≤ W2.heap.size := Nat.le_trans H3.out.2.2.2 (Nat.le_trans (by simp) hgr.size)
      clear hown hgr hlt q1 hcy
      go_wp2
      go_roundg (gk - 1)
      case measure => omega
      case rel => exact ⟨i + 1, n' + 1, some ⟨gn, 0, none⟩, cn, rfl, by go_num, by omega, by omega, Lib.hid ⟨HA.out.2.1, hPB, HA.out.1, by rw [HA.out.2.2, List.length_append, ← hR.out.2.2.2.1]; rfl, hsz⟩⟩

end Go.Proofs.YtnphlekailodkaaGreatDoor
