/-
  Follow of the directory.
-/
import Derived.Test.YtnphlekailodkaaGreatDoorFv
namespace Go.Proofs.YtnphlekailodkaaGreatDoor
open Go.RowKit Go.Shelf

set_option maxRecDepth 1000000 in
set_option maxHeartbeats 8000000 in
theorem Follow_calls (A : Option Addr) (n c : Nat) (l : List Pe.Ent) (cd : Pe.Pair) (s d : Int) (w : World) (h : EntsAt w A n l) (hn : n ≤ 100000) :
    Calls Tryz.prog 18 #[.slice A n c, .agg (pCells cd), .int .i64 s, .int .i64 d] w fun e w' => RouteAt w' w.heap.size (Pe.follow l cd s d) e ∧ Below w.heap.size w w' := by
  have H := Lib.hid h
  have hmm := @run_makeMap Tryz.prog
  clear h
  obtain ⟨F, hF⟩ : ∃ F, F = Pe.follow l cd s d := ⟨_, rfl⟩
  rw [← hF]
  have HF := Lib.hid hF
  clear hF
  go_enter Tryz.func18, Tryz.ntmps18
  unfold pCells
  go_wp2_with fail
  obtain ⟨b, hb⟩ : ∃ b, b = w.heap.size := ⟨_, rfl⟩
  obtain ⟨w1, hw1⟩ : ∃ w1, w1 = (w.alloc (.cells (pCells cd) 28)).alloc (.cells #[.int .u8 0, .int .i64 0, .int .i64 0, .slice none 0 0, .int .i64 0] 34) := ⟨_, rfl⟩
  have hB1 : Below w.heap.size w w1 := by rw [hw1]; exact ((Below.refl _ w).alloc (Nat.le_refl _) _).alloc (by simp) _
  have hc1 : Blk w1 b 28 (pCells cd) := by rw [hw1, hb]; exact (Blk.fresh w _ _).alloc _
  have hr1 : Blk w1 (b + 1) 34 #[.int .u8 0, .int .i64 0, .int .i64 0, .slice none 0 0, .int .i64 0] := by rw [hw1, hb]; have := Blk.fresh (w.alloc (.cells (pCells cd) 28)) 34 #[.int .u8 0, .int .i64 0, .int .i64 0, .slice none 0 0, .int .i64 0]; simpa using this
  have hs1 : w1.heap.size = b + 2 := by rw [hw1, hb]; simp
  unfold pCells at hw1
  rw [← hb, ← hw1]
  have H1 := Lib.hid (And.intro hB1 (And.intro hc1 (And.intro hr1 (And.intro hs1 hb))))
  have k0 : w1.cell? ⟨b, 0, none⟩ = some (.int .i64 cd.1) := hc1.cell 0
  have k1 : w1.cell? ⟨b, 1, none⟩ = some (.int .i64 cd.2) := hc1.cell 1
  have lt0 : b < w1.heap.size := by omega
  have lt1 : b + 1 < w1.heap.size := by omega
  clear hB1 hc1 hr1 hw1 hb hs1
  obtain ⟨r, hr⟩ : ∃ r, r = w1.heap.size := ⟨_, rfl⟩
  have hrb : r = b + 2 := by rw [hr]; exact H1.out.2.2.2.1
  have HRR := Lib.hid hr
  have HRB := Lib.hid hrb
  clear hr hrb
  refine wp_scope_jumps2 0 (FwJ A n c l s d cd F w b r) (fun _ W => fwM l.length r W) rfl ?first ?pass
  case pass =>
    rintro ⟨tm, df⟩ W ⟨at_, hs, v, ht1, rfl, ht2, hI⟩
    obtain ⟨u, rfl⟩ := slots129 tm _ _ _ _ _ _ _ _ _ _ _ _ _ ht1 ht2
    clear ht1 ht2
    obtain ⟨A', cap', rfl, hcap1, hcap2⟩ := own_shape hI.mem.own
    obtain ⟨q, hq, hspec⟩ := hI.spec
    have hshort := hI.way.short
    obtain ⟨W1, hup, hM1, _, hg1⟩ := run_insert_c hI.mem.map at_ (fun hx => (List.nodup_append.1 hI.way.nodup).2.2 at_ hx at_ (by simp) rfl)
    have hB1 := hI.mem.ins hg1 hM1 (by have := H1.out.2.2.2; have := HRB.out; omega)
    rw [List.length_map] at hup
    unfold pCells at hup
    obtain ⟨q, rfl⟩ : ∃ q', q = q' + 1 := ⟨q - 1, by omega⟩
    have r3 : W.cell? ⟨r, 3, none⟩ = some (.slice A' hs.length cap') := hI.mem.rt.cell 3
    have p0 : W.cell? ⟨r + 1 + 1, 0, none⟩ = some (.int .i64 at_.1) := hI.mem.pt.cell 0
    have p1 : W.cell? ⟨r + 1 + 1, 1, none⟩ = some (.int .i64 at_.2) := hI.mem.pt.cell 1
    have q3 : W1.cell? ⟨r, 3, none⟩ = some (.slice A' hs.length cap') := hB1.rt.cell 3
    have q0 : W1.cell? ⟨r + 1 + 1, 0, none⟩ = some (.int .i64 at_.1) := hB1.pt.cell 0
    have q1 : W1.cell? ⟨r + 1 + 1, 1, none⟩ = some (.int .i64 at_.2) := hB1.pt.cell 1
    have HP := Lib.hid (And.intro hB1 (And.intro hspec (And.intro hI.way (And.intro hq hI.mem))))
    clear hB1 hI hspec hq hg1 hM1 k0 k1
    have hE1 := H.out.below HP.out.1.bel
    have HH := Lib.hid (fun W => Heir_calls A n c l at_.1 d W)
    have HD := Lib.hid (fun W => Dead_calls A n c l at_.1 d W)
    have HE1 := Lib.hid hE1
    clear hE1
    go_wp2_with fail
    refine (HH.out _ HE1.out).mono ?_
    rintro e W2 ⟨rfl, hb2⟩
    have HP2 := Lib.hid (And.intro (HP.out.1.below hb2) (HE1.out.below (hb2.mono (Nat.le_refl _))))
    clear r3 p0 p1 q0 q1 q3 hb2 hup
    have q0 : W2.cell? ⟨r + 1 + 1, 0, none⟩ = some (.int .i64 at_.1) := HP2.out.1.pt.cell 0
    have q1 : W2.cell? ⟨r + 1 + 1, 1, none⟩ = some (.int .i64 at_.2) := HP2.out.1.pt.cell 1
    dsimp only
    obtain ⟨iv, hiv⟩ : ∃ iv, iv = (Pe.heir? l at_.1 d).isSome := ⟨_, rfl⟩
    obtain ⟨dv, hdv⟩ : ∃ dv, dv = Pe.dead l at_.1 d := ⟨_, rfl⟩
    rw [← hiv]
    have HIV := Lib.hid (And.intro hiv hdv)
    clear hiv hdv
    go_upto_region 8 with fail
    go_cut [66] (fun s66 wx => s66 = .bool (dv && !iv) ∧ Hid (FwB w b r #[.int .u8 0, .int .i64 0, .int .i64 0, .slice A' hs.length cap', .int .i64 0] at_ (hs.map (·.frm) ++ [at_]) hs (.slice A' hs.length cap') wx ∧ EntsAt wx A n l))
    case first =>
      go_wp2_with fail
      refine (HD.out _ HP2.out.2).mono ?_
      rintro e W3 ⟨rfl, hb3⟩
      have HP3 := Lib.hid (And.intro (HP2.out.1.below hb3) (HP2.out.2.below (hb3.mono (Nat.le_refl _))))
      clear q0 q1 hb3
      rw [← HIV.out.2]
      dsimp only
      cases dv
      · go_wp2
        go_meet
        exact ⟨rfl, HP3⟩
      · cases iv
        all_goals
          go_wp2
          go_meet
          exact ⟨rfl, HP3⟩
    case rest =>
    obtain ⟨rfl, HP3⟩ := hcut
    clear q0 q1
    rename World => W3
    obtain ⟨bv, hbv⟩ : ∃ bv, bv = (dv && !iv) := ⟨_, rfl⟩
    rw [← hbv]
    have HBV := Lib.hid hbv
    clear hbv
    have q0 : W3.cell? ⟨r + 1 + 1, 0, none⟩ = some (.int .i64 at_.1) := HP3.out.1.pt.cell 0
    have q1 : W3.cell? ⟨r + 1 + 1, 1, none⟩ = some (.int .i64 at_.2) := HP3.out.1.pt.cell 1
    cases bv
    case true =>
      have HF3 := Lib.hid (show F = ((⟨3, at_, hs, 0⟩ : Pe.Route), 0) by
        have h1 := HBV.out
        rw [HIV.out.1, HIV.out.2] at h1
        have h2 := (Bool.and_eq_true _ _).mp h1.symm
        rw [HP.out.2.1, Pe.followFrom, if_pos ⟨h2.1, by simpa using h2.2⟩])
      have r0 : W3.cell? ⟨r, 0, none⟩ = some (.int .u8 0) := HP3.out.1.rt.cell 0
      have r1 : W3.cell? ⟨r, 1, none⟩ = some (.int .i64 0) := HP3.out.1.rt.cell 1
      have r2 : W3.cell? ⟨r, 2, none⟩ = some (.int .i64 0) := HP3.out.1.rt.cell 2
      have r3 : W3.cell? ⟨r, 3, none⟩ = some (.slice A' hs.length cap') := HP3.out.1.rt.cell 3
      have r4 : W3.cell? ⟨r, 4, none⟩ = some (.int .i64 0) := HP3.out.1.rt.cell 4
      have f0 := HP3.out.1.rt.frozen 0
      have f1 := HP3.out.1.rt.frozen 1
      have f2 := HP3.out.1.rt.frozen 2
      have f3 := HP3.out.1.rt.frozen 3
      have f4 := HP3.out.1.rt.frozen 4
      have s0 : W3.cell? ⟨b + 1, 0, none⟩ = some (.int .u8 0) := HP3.out.1.rs.cell 0
      have s1 : W3.cell? ⟨b + 1, 1, none⟩ = some (.int .i64 0) := HP3.out.1.rs.cell 1
      have s2 : W3.cell? ⟨b + 1, 2, none⟩ = some (.int .i64 0) := HP3.out.1.rs.cell 2
      have s3 : W3.cell? ⟨b + 1, 3, none⟩ = some (.slice none 0 0) := HP3.out.1.rs.cell 3
      have s4 : W3.cell? ⟨b + 1, 4, none⟩ = some (.int .i64 0) := HP3.out.1.rs.cell 4
      have g0 := HP3.out.1.rs.frozen 0
      have g1 := HP3.out.1.rs.frozen 1
      have g2 := HP3.out.1.rs.frozen 2
      have g3 := HP3.out.1.rs.frozen 3
      have g4 := HP3.out.1.rs.frozen 4
      have lr : r < W3.heap.size := HP3.out.1.rt.lt
      have lb : b + 1 < W3.heap.size := HP3.out.1.rs.lt
      have hrb : b + 1 < r := by have := HRB.out; omega
      go_wp2_with fail
      go_region
      go_wp2
      simp only [Exit.jump]
      obtain ⟨z1, z2, z3⟩ := FwB.fin (((HP3.out.1.set HRB.out H1.out.2.2.2.2.symm 0 (.int .u8 3)).set HRB.out H1.out.2.2.2.2.symm 1 (.int .i64 at_.1)).set HRB.out H1.out.2.2.2.2.symm 2 (.int .i64 at_.2)) HRB.out H1.out.2.2.2.2.symm (.int .u8 3) (.int .i64 at_.1) (.int .i64 at_.2) (.slice A' hs.length cap') (.int .i64 0)
      have z4 := own_below z2 ((Below.refl _ _).drew)
      refine bodyPost_ret (results_row2 (P := Tryz.prog) (fn := Tryz.f18) rfl _ _ (b + 1) #[(.int .u8 3), (.int .i64 at_.1), (.int .i64 at_.2), (.slice A' hs.length cap'), (.int .i64 0)] _ rfl z1.drew Tryz.underlying34 rfl infoRoute) rfl ⟨⟨(.slice A' hs.length cap'), ?_, ?_⟩, z3.drew⟩
      · rw [HF3.out]; rfl
      · rw [HF3.out]; exact z4
    have HNB := Lib.hid (show ¬ (Pe.dead l at_.1 d = true ∧ Pe.heir? l at_.1 d = none) by
        rintro ⟨h2, h3⟩
        have h1 := HBV.out
        rw [HIV.out.1, HIV.out.2, h2, h3] at h1
        cases h1)
    have HR := Lib.hid (fun W => Refuses_calls A n c l at_ s d W)
    unfold pCells at HR
    go_wp2_with fail
    refine (HR.out _ HP3.out.2).mono ?_
    rintro e W4 ⟨rfl, hb4⟩
    have HP4 := Lib.hid (And.intro (HP3.out.1.below hb4) (HP3.out.2.below (hb4.mono (Nat.le_refl _))))
    clear q0 q1 hb4
    have q0 : W4.cell? ⟨r + 1 + 1, 0, none⟩ = some (.int .i64 at_.1) := HP4.out.1.pt.cell 0
    have q1 : W4.cell? ⟨r + 1 + 1, 1, none⟩ = some (.int .i64 at_.2) := HP4.out.1.pt.cell 1
    dsimp only
    obtain ⟨fv, hfv⟩ : ∃ fv, fv = Pe.refuses l at_ s d := ⟨_, rfl⟩
    rw [← hfv]
    have HFV := Lib.hid hfv
    clear hfv
    cases fv
    case true =>
      have HF3 := Lib.hid (show F = ((⟨2, at_, hs, 0⟩ : Pe.Route), 0) by rw [HP.out.2.1, Pe.followFrom, if_neg HNB.out, if_pos HFV.out.symm])
      have r0 : W4.cell? ⟨r, 0, none⟩ = some (.int .u8 0) := HP4.out.1.rt.cell 0
      have r1 : W4.cell? ⟨r, 1, none⟩ = some (.int .i64 0) := HP4.out.1.rt.cell 1
      have r2 : W4.cell? ⟨r, 2, none⟩ = some (.int .i64 0) := HP4.out.1.rt.cell 2
      have r3 : W4.cell? ⟨r, 3, none⟩ = some (.slice A' hs.length cap') := HP4.out.1.rt.cell 3
      have r4 : W4.cell? ⟨r, 4, none⟩ = some (.int .i64 0) := HP4.out.1.rt.cell 4
      have f0 := HP4.out.1.rt.frozen 0
      have f1 := HP4.out.1.rt.frozen 1
      have f2 := HP4.out.1.rt.frozen 2
      have f3 := HP4.out.1.rt.frozen 3
      have f4 := HP4.out.1.rt.frozen 4
      have s0 : W4.cell? ⟨b + 1, 0, none⟩ = some (.int .u8 0) := HP4.out.1.rs.cell 0
      have s1 : W4.cell? ⟨b + 1, 1, none⟩ = some (.int .i64 0) := HP4.out.1.rs.cell 1
      have s2 : W4.cell? ⟨b + 1, 2, none⟩ = some (.int .i64 0) := HP4.out.1.rs.cell 2
      have s3 : W4.cell? ⟨b + 1, 3, none⟩ = some (.slice none 0 0) := HP4.out.1.rs.cell 3
      have s4 : W4.cell? ⟨b + 1, 4, none⟩ = some (.int .i64 0) := HP4.out.1.rs.cell 4
      have g0 := HP4.out.1.rs.frozen 0
      have g1 := HP4.out.1.rs.frozen 1
      have g2 := HP4.out.1.rs.frozen 2
      have g3 := HP4.out.1.rs.frozen 3
      have g4 := HP4.out.1.rs.frozen 4
      have lr : r < W4.heap.size := HP4.out.1.rt.lt
      have lb : b + 1 < W4.heap.size := HP4.out.1.rs.lt
      have hrb : b + 1 < r := by have := HRB.out; omega
      go_wp2_with fail
      go_region
      go_wp2
      simp only [Exit.jump]
      obtain ⟨z1, z2, z3⟩ := FwB.fin (((HP4.out.1.set HRB.out H1.out.2.2.2.2.symm 0 (.int .u8 2)).set HRB.out H1.out.2.2.2.2.symm 1 (.int .i64 at_.1)).set HRB.out H1.out.2.2.2.2.symm 2 (.int .i64 at_.2)) HRB.out H1.out.2.2.2.2.symm (.int .u8 2) (.int .i64 at_.1) (.int .i64 at_.2) (.slice A' hs.length cap') (.int .i64 0)
      have z4 := own_below z2 ((Below.refl _ _).drew)
      refine bodyPost_ret (results_row2 (P := Tryz.prog) (fn := Tryz.f18) rfl _ _ (b + 1) #[(.int .u8 2), (.int .i64 at_.1), (.int .i64 at_.2), (.slice A' hs.length cap'), (.int .i64 0)] _ rfl z1.drew Tryz.underlying34 rfl infoRoute) rfl ⟨⟨(.slice A' hs.length cap'), ?_, ?_⟩, z3.drew⟩
      · rw [HF3.out]; rfl
      · rw [HF3.out]; exact z4
    have HNR := Lib.hid (show ¬ Pe.refuses l at_ s d = true by rw [← HFV.out]; simp)
    have HS := Lib.hid (fun W => step_calls A n c l at_ d W)
    have hhow := Pe.step_how l at_ d
    obtain ⟨⟨hp, how⟩, hst⟩ : ∃ z, z = Pe.step l at_ d := ⟨_, rfl⟩
    rw [← hst] at HS hhow
    dsimp only at HS hhow
    have HST := Lib.hid hst
    clear hst
    unfold pCells at HS
    go_wp2_with fail
    refine (HS.out _ HP4.out.2).mono ?_
    rintro e W5 ⟨rfl, hb5⟩
    have HP5 := Lib.hid (And.intro (HP4.out.1.below hb5) (HP4.out.2.below (hb5.mono (Nat.le_refl _))))
    clear q0 q1 hb5
    unfold hCells
    dsimp only
    go_upto_region 15 with fail
    obtain ⟨g, hg⟩ : ∃ g, g = W5.heap.size := ⟨_, rfl⟩
    obtain ⟨W6, hW6⟩ : ∃ W6, W6 = W5.alloc (.cells (hCells hp) 66) := ⟨_, rfl⟩
    have hB6 := HP5.out.1.below ((Below.refl _ W5).alloc (Nat.le_refl _) (.cells (hCells hp) 66))
    have hG6 := Blk.fresh W5 66 (hCells hp)
    rw [← hW6] at hB6 hG6
    rw [← hg] at hG6
    have hrg : r + 1 + 1 < g := by rw [hg]; exact HP5.out.1.pt.lt
    have HP6 := Lib.hid (And.intro hB6 (And.intro hG6 hrg))
    unfold hCells at hW6
    rw [← hg, ← hW6]
    have HG := Lib.hid hg
    clear hB6 hG6 hW6 hg hrg
    have q0 : W6.cell? ⟨r + 1 + 1, 0, none⟩ = some (.int .i64 at_.1) := HP6.out.1.pt.cell 0
    have q1 : W6.cell? ⟨r + 1 + 1, 1, none⟩ = some (.int .i64 at_.2) := HP6.out.1.pt.cell 1
    have k0 : W6.cell? ⟨g, 0, none⟩ = some (.int .u8 (hp.kind : Int)) := HP6.out.2.1.cell 0
    have k1 : W6.cell? ⟨g, 1, none⟩ = some (.int .i64 hp.frm.1) := HP6.out.2.1.cell 1
    have k2 : W6.cell? ⟨g, 2, none⟩ = some (.int .i64 hp.frm.2) := HP6.out.2.1.cell 2
    have k3 : W6.cell? ⟨g, 3, none⟩ = some (.int .i64 hp.to.1) := HP6.out.2.1.cell 3
    have k4 : W6.cell? ⟨g, 4, none⟩ = some (.int .i64 hp.to.2) := HP6.out.2.1.cell 4
    have k5 : W6.cell? ⟨g, 5, none⟩ = some (.int .i64 hp.order) := HP6.out.2.1.cell 5
    have hrg : r < g := by have := HP6.out.2.2; omega
    obtain rfl | rfl | rfl : how = 0 ∨ how = 1 ∨ how = 2 := by omega
    · skip
      have r0 : W6.cell? ⟨r, 0, none⟩ = some (.int .u8 0) := HP6.out.1.rt.cell 0
      have r1 : W6.cell? ⟨r, 1, none⟩ = some (.int .i64 0) := HP6.out.1.rt.cell 1
      have r2 : W6.cell? ⟨r, 2, none⟩ = some (.int .i64 0) := HP6.out.1.rt.cell 2
      have r3 : W6.cell? ⟨r, 3, none⟩ = some (.slice A' hs.length cap') := HP6.out.1.rt.cell 3
      have r4 : W6.cell? ⟨r, 4, none⟩ = some (.int .i64 0) := HP6.out.1.rt.cell 4
      have f0 := HP6.out.1.rt.frozen 0
      have f1 := HP6.out.1.rt.frozen 1
      have f2 := HP6.out.1.rt.frozen 2
      have f3 := HP6.out.1.rt.frozen 3
      have f4 := HP6.out.1.rt.frozen 4
      have s0 : W6.cell? ⟨b + 1, 0, none⟩ = some (.int .u8 0) := HP6.out.1.rs.cell 0
      have s1 : W6.cell? ⟨b + 1, 1, none⟩ = some (.int .i64 0) := HP6.out.1.rs.cell 1
      have s2 : W6.cell? ⟨b + 1, 2, none⟩ = some (.int .i64 0) := HP6.out.1.rs.cell 2
      have s3 : W6.cell? ⟨b + 1, 3, none⟩ = some (.slice none 0 0) := HP6.out.1.rs.cell 3
      have s4 : W6.cell? ⟨b + 1, 4, none⟩ = some (.int .i64 0) := HP6.out.1.rs.cell 4
      have g0 := HP6.out.1.rs.frozen 0
      have g1 := HP6.out.1.rs.frozen 1
      have g2 := HP6.out.1.rs.frozen 2
      have g3 := HP6.out.1.rs.frozen 3
      have g4 := HP6.out.1.rs.frozen 4
      have lr : r < W6.heap.size := HP6.out.1.rt.lt
      have lb : b + 1 < W6.heap.size := HP6.out.1.rs.lt
      have hrb : b + 1 < r := by have := HRB.out; omega
      go_wp2_with fail
      go_region
      go_wp2_with fail
      have HP7 := Lib.hid (((HP6.out.1.set HRB.out H1.out.2.2.2.2.symm 0 (.int .u8 4)).set HRB.out H1.out.2.2.2.2.symm 1 (.int .i64 at_.1)).set HRB.out H1.out.2.2.2.2.symm 2 (.int .i64 at_.2))
      refine (Lives_calls A n c l at_ d _ (H.out.below HP7.out.bel.drew) hn).mono ?_
      rintro e W8 ⟨rfl, hb8⟩
      have HP8 := Lib.hid (HP7.out.drew.below hb8)
      clear r0 r1 r2 r3 r4 f0 f1 f2 f3 f4 s0 s1 s2 s3 s4 g0 g1 g2 g3 g4 lr lb k0 k1 k2 k3 k4 k5 q0 q1 hb8
      obtain ⟨lv, hlv⟩ : ∃ lv, lv = Pe.lives l at_ d := ⟨_, rfl⟩
      rw [← hlv]
      have hFL : F = ((⟨if lv = true then 1 else 4, at_, hs, 0⟩ : Pe.Route), 0) := by
        rw [HP.out.2.1, Pe.followFrom, if_neg HNB.out, if_neg HNR.out, ← HST.out]
        simp only
        rw [if_neg (by decide), if_neg (by decide), ← hlv]
      clear hlv
      have r0 : W8.cell? ⟨r, 0, none⟩ = some (.int .u8 4) := HP8.out.rt.cell 0
      dsimp only
      cases lv
      · have HF3 := Lib.hid (show F = ((⟨4, at_, hs, 0⟩ : Pe.Route), 0) from hFL)
        clear hFL r0
        have r0 : W8.cell? ⟨r, 0, none⟩ = some (.int .u8 4) := HP8.out.rt.cell 0
        have r1 : W8.cell? ⟨r, 1, none⟩ = some (.int .i64 at_.1) := HP8.out.rt.cell 1
        have r2 : W8.cell? ⟨r, 2, none⟩ = some (.int .i64 at_.2) := HP8.out.rt.cell 2
        have r3 : W8.cell? ⟨r, 3, none⟩ = some (.slice A' hs.length cap') := HP8.out.rt.cell 3
        have r4 : W8.cell? ⟨r, 4, none⟩ = some (.int .i64 0) := HP8.out.rt.cell 4
        have f0 := HP8.out.rt.frozen 0
        have f1 := HP8.out.rt.frozen 1
        have f2 := HP8.out.rt.frozen 2
        have f3 := HP8.out.rt.frozen 3
        have f4 := HP8.out.rt.frozen 4
        have s0 : W8.cell? ⟨b + 1, 0, none⟩ = some (.int .u8 0) := HP8.out.rs.cell 0
        have s1 : W8.cell? ⟨b + 1, 1, none⟩ = some (.int .i64 0) := HP8.out.rs.cell 1
        have s2 : W8.cell? ⟨b + 1, 2, none⟩ = some (.int .i64 0) := HP8.out.rs.cell 2
        have s3 : W8.cell? ⟨b + 1, 3, none⟩ = some (.slice none 0 0) := HP8.out.rs.cell 3
        have s4 : W8.cell? ⟨b + 1, 4, none⟩ = some (.int .i64 0) := HP8.out.rs.cell 4
        have g0 := HP8.out.rs.frozen 0
        have g1 := HP8.out.rs.frozen 1
        have g2 := HP8.out.rs.frozen 2
        have g3 := HP8.out.rs.frozen 3
        have g4 := HP8.out.rs.frozen 4
        have lr : r < W8.heap.size := HP8.out.rt.lt
        have lb : b + 1 < W8.heap.size := HP8.out.rs.lt
        have hrb : b + 1 < r := by have := HRB.out; omega
        go_wp2
        simp only [Exit.jump]
        obtain ⟨z1, z2, z3⟩ := FwB.fin HP8.out HRB.out H1.out.2.2.2.2.symm (.int .u8 4) (.int .i64 at_.1) (.int .i64 at_.2) (.slice A' hs.length cap') (.int .i64 0)
        refine bodyPost_ret (results_row2 (P := Tryz.prog) (fn := Tryz.f18) rfl _ _ (b + 1) #[(.int .u8 4), (.int .i64 at_.1), (.int .i64 at_.2), (.slice A' hs.length cap'), (.int .i64 0)] _ rfl z1 Tryz.underlying34 rfl infoRoute) rfl ⟨⟨(.slice A' hs.length cap'), ?_, ?_⟩, z3⟩
        · rw [HF3.out]; rfl
        · rw [HF3.out]; exact z2
      · have HF3 := Lib.hid (show F = ((⟨1, at_, hs, 0⟩ : Pe.Route), 0) from hFL)
        clear hFL r0
        have r0 : W8.cell? ⟨r, 0, none⟩ = some (.int .u8 4) := HP8.out.rt.cell 0
        have r1 : W8.cell? ⟨r, 1, none⟩ = some (.int .i64 at_.1) := HP8.out.rt.cell 1
        have r2 : W8.cell? ⟨r, 2, none⟩ = some (.int .i64 at_.2) := HP8.out.rt.cell 2
        have r3 : W8.cell? ⟨r, 3, none⟩ = some (.slice A' hs.length cap') := HP8.out.rt.cell 3
        have r4 : W8.cell? ⟨r, 4, none⟩ = some (.int .i64 0) := HP8.out.rt.cell 4
        have f0 := HP8.out.rt.frozen 0
        have f1 := HP8.out.rt.frozen 1
        have f2 := HP8.out.rt.frozen 2
        have f3 := HP8.out.rt.frozen 3
        have f4 := HP8.out.rt.frozen 4
        have s0 : W8.cell? ⟨b + 1, 0, none⟩ = some (.int .u8 0) := HP8.out.rs.cell 0
        have s1 : W8.cell? ⟨b + 1, 1, none⟩ = some (.int .i64 0) := HP8.out.rs.cell 1
        have s2 : W8.cell? ⟨b + 1, 2, none⟩ = some (.int .i64 0) := HP8.out.rs.cell 2
        have s3 : W8.cell? ⟨b + 1, 3, none⟩ = some (.slice none 0 0) := HP8.out.rs.cell 3
        have s4 : W8.cell? ⟨b + 1, 4, none⟩ = some (.int .i64 0) := HP8.out.rs.cell 4
        have g0 := HP8.out.rs.frozen 0
        have g1 := HP8.out.rs.frozen 1
        have g2 := HP8.out.rs.frozen 2
        have g3 := HP8.out.rs.frozen 3
        have g4 := HP8.out.rs.frozen 4
        have lr : r < W8.heap.size := HP8.out.rt.lt
        have lb : b + 1 < W8.heap.size := HP8.out.rs.lt
        have hrb : b + 1 < r := by have := HRB.out; omega
        go_wp2
        simp only [Exit.jump]
        obtain ⟨z1, z2, z3⟩ := FwB.fin (HP8.out.set HRB.out H1.out.2.2.2.2.symm 0 (.int .u8 1)) HRB.out H1.out.2.2.2.2.symm (.int .u8 1) (.int .i64 at_.1) (.int .i64 at_.2) (.slice A' hs.length cap') (.int .i64 0)
        refine bodyPost_ret (results_row2 (P := Tryz.prog) (fn := Tryz.f18) rfl _ _ (b + 1) #[(.int .u8 1), (.int .i64 at_.1), (.int .i64 at_.2), (.slice A' hs.length cap'), (.int .i64 0)] _ rfl z1 Tryz.underlying34 rfl infoRoute) rfl ⟨⟨(.slice A' hs.length cap'), ?_, ?_⟩, z3⟩
        · rw [HF3.out]; rfl
        · rw [HF3.out]; exact z2
    · have HF3 := Lib.hid (show F = ((⟨5, hp.to, hs, 0⟩ : Pe.Route), 0) by
        rw [HP.out.2.1, Pe.followFrom, if_neg HNB.out, if_neg HNR.out, ← HST.out]; rfl)
      have r0 : W6.cell? ⟨r, 0, none⟩ = some (.int .u8 0) := HP6.out.1.rt.cell 0
      have r1 : W6.cell? ⟨r, 1, none⟩ = some (.int .i64 0) := HP6.out.1.rt.cell 1
      have r2 : W6.cell? ⟨r, 2, none⟩ = some (.int .i64 0) := HP6.out.1.rt.cell 2
      have r3 : W6.cell? ⟨r, 3, none⟩ = some (.slice A' hs.length cap') := HP6.out.1.rt.cell 3
      have r4 : W6.cell? ⟨r, 4, none⟩ = some (.int .i64 0) := HP6.out.1.rt.cell 4
      have f0 := HP6.out.1.rt.frozen 0
      have f1 := HP6.out.1.rt.frozen 1
      have f2 := HP6.out.1.rt.frozen 2
      have f3 := HP6.out.1.rt.frozen 3
      have f4 := HP6.out.1.rt.frozen 4
      have s0 : W6.cell? ⟨b + 1, 0, none⟩ = some (.int .u8 0) := HP6.out.1.rs.cell 0
      have s1 : W6.cell? ⟨b + 1, 1, none⟩ = some (.int .i64 0) := HP6.out.1.rs.cell 1
      have s2 : W6.cell? ⟨b + 1, 2, none⟩ = some (.int .i64 0) := HP6.out.1.rs.cell 2
      have s3 : W6.cell? ⟨b + 1, 3, none⟩ = some (.slice none 0 0) := HP6.out.1.rs.cell 3
      have s4 : W6.cell? ⟨b + 1, 4, none⟩ = some (.int .i64 0) := HP6.out.1.rs.cell 4
      have g0 := HP6.out.1.rs.frozen 0
      have g1 := HP6.out.1.rs.frozen 1
      have g2 := HP6.out.1.rs.frozen 2
      have g3 := HP6.out.1.rs.frozen 3
      have g4 := HP6.out.1.rs.frozen 4
      have lr : r < W6.heap.size := HP6.out.1.rt.lt
      have lb : b + 1 < W6.heap.size := HP6.out.1.rs.lt
      have hrb : b + 1 < r := by have := HRB.out; omega
      go_wp2_with fail
      go_region
      go_wp2
      simp only [Exit.jump]
      obtain ⟨z1, z2, z3⟩ := FwB.fin (((HP6.out.1.set HRB.out H1.out.2.2.2.2.symm 0 (.int .u8 5)).set HRB.out H1.out.2.2.2.2.symm 1 (.int .i64 hp.to.1)).set HRB.out H1.out.2.2.2.2.symm 2 (.int .i64 hp.to.2)) HRB.out H1.out.2.2.2.2.symm (.int .u8 5) (.int .i64 hp.to.1) (.int .i64 hp.to.2) (.slice A' hs.length cap') (.int .i64 0)
      have z4 := own_below z2 ((Below.refl _ _).drew)
      refine bodyPost_ret (results_row2 (P := Tryz.prog) (fn := Tryz.f18) rfl _ _ (b + 1) #[(.int .u8 5), (.int .i64 hp.to.1), (.int .i64 hp.to.2), (.slice A' hs.length cap'), (.int .i64 0)] _ rfl z1.drew Tryz.underlying34 rfl infoRoute) rfl ⟨⟨(.slice A' hs.length cap'), ?_, ?_⟩, z3.drew⟩
      · rw [HF3.out]; rfl
      · rw [HF3.out]; exact z4
    · have h2 : (Pe.step l at_ d).2 = 2 := (congrArg Prod.snd HST.out).symm
      have hpf : hp.frm = at_ := by
        have := (Pe.step_target h2).2
        rw [← HST.out] at this
        exact this
      have hseen := seen_num hs hp.to h2
      rw [← HST.out] at hseen
      dsimp only at hseen
      obtain ⟨nv, hnv⟩ : ∃ nv, nv = numOf hp.to (hs.map (·.frm) ++ [at_]) 0 := ⟨_, rfl⟩
      have HN := Lib.hid (And.intro hnv (And.intro (hnv.trans hseen) (And.intro hpf h2)))
      clear h2 hpf hseen hnv
      obtain ⟨i0, hi0, hz0, hz1, hz2⟩ := info_parts infoHopN
      have HI0 := Lib.hid (And.intro hi0 (And.intro hz0 (And.intro hz1 hz2)))
      clear hi0 hz0 hz1 hz2
      have r3 : W6.cell? ⟨r, 3, none⟩ = some (.slice A' hs.length cap') := HP6.out.1.rt.cell 3
      have hmax : hs.length ≤ 100000 := by have := H.out.len; omega
      have hsz6 : r + 3 ≤ W6.heap.size := by have := HP6.out.1.pt.lt; omega
      go_wp2_with (at_builtin; refine wpList_append_lies _ rfl _ _ 32 rfl (r + 3) 66 i0 _ 6 48 Tryz.underlying32 HI0.out.1 HI0.out.2.1 HI0.out.2.2.1 HI0.out.2.2.2 (by rfl) (by decide) (.slice A' hs.length cap') hs.length (hRow hs) rfl (own_below HP6.out.1.own ((Below.refl _ W6).alloc (Nat.le_refl _) _)) ⟨W6.heap.size, 0, none⟩ 1 1 (hCells hp).toList rfl rfl (World.news_of_block (cs := hCells hp) (t := 66) (fr := (0, 0)) (heap_alloc_new W6 _)) ?o1 (by decide) ?o2 ?o3 ?o4 _ rfl ?_)
      case o1 => simp [hCells, Value.oneCell']
      case o2 => simp only [maxLen]; omega
      case o3 => omega
      case o4 => omega
      intro gh ch W7 hown7 hgr7 _ hlt7
      have hB7 : FwB w b r #[.int .u8 0, .int .i64 0, .int .i64 0, .slice A' hs.length cap', .int .i64 0] at_ (hs.map (·.frm) ++ [at_]) (hs ++ [hp]) (.slice (some ⟨gh, 0, none⟩) (hs.length + 1) ch) W7 := (HP6.out.1.below ((Below.refl _ W6).alloc (Nat.le_refl _) _)).app HRB.out H1.out.2.2.2.2.symm hgr7 (by rw [hRow_snoc, List.length_append]; exact hown7)
      have hG7 : Blk W7 g 66 (hCells hp) := (HP6.out.2.1.alloc _).grown hgr7 (fun e => by have := (HP5.out.1.own.lt g e.symm).2; have := HG.out; omega)
      clear r3 k0 k1 k2 k3 k4 k5 q0 q1
      have r3 : W7.cell? ⟨r, 3, none⟩ = some (.slice A' hs.length cap') := hB7.rt.cell 3
      have f3 := hB7.rt.frozen 3
      have lr : r < W7.heap.size := hB7.rt.lt
      have HP7 := Lib.hid (And.intro hB7 hG7)
      clear hown7 hgr7 hB7 hG7 hlt7
      go_upto_region 21 with fail
      obtain ⟨W8, hW8⟩ : ∃ W8, W8 = W7.setCell ⟨r, 3, none⟩ (.slice (some ⟨gh, 0, none⟩) (hs.length + 1) ch) := ⟨_, rfl⟩
      have hB8 := HP7.out.1.set HRB.out H1.out.2.2.2.2.symm 3 (.slice (some ⟨gh, 0, none⟩) (hs.length + 1) ch)
      have hG8 := HP7.out.2.far (p := ⟨r, 3, none⟩) (by simp; omega) (.slice (some ⟨gh, 0, none⟩) (hs.length + 1) ch)
      rw [← hW8] at hB8 hG8 ⊢
      have hlk := run_lookup_c hB8.map hp.to
      rw [← HN.out.1] at hlk
      unfold pCells at hlk
      have HP8 := Lib.hid (And.intro hB8 hG8)
      clear r3 f3 lr hB8 hG8 hW8
      have k3 : W8.cell? ⟨g, 3, none⟩ = some (.int .i64 hp.to.1) := HP8.out.2.cell 3
      have k4 : W8.cell? ⟨g, 4, none⟩ = some (.int .i64 hp.to.2) := HP8.out.2.cell 4
      have r0 : W8.cell? ⟨r, 0, none⟩ = some (.int .u8 0) := HP8.out.1.rt.cell 0
      have r1 : W8.cell? ⟨r, 1, none⟩ = some (.int .i64 0) := HP8.out.1.rt.cell 1
      have r2 : W8.cell? ⟨r, 2, none⟩ = some (.int .i64 0) := HP8.out.1.rt.cell 2
      have r3 : W8.cell? ⟨r, 3, none⟩ = some (.slice (some ⟨gh, 0, none⟩) (hs.length + 1) ch) := HP8.out.1.rt.cell 3
      have r4 : W8.cell? ⟨r, 4, none⟩ = some (.int .i64 0) := HP8.out.1.rt.cell 4
      have f0 := HP8.out.1.rt.frozen 0
      have f1 := HP8.out.1.rt.frozen 1
      have f2 := HP8.out.1.rt.frozen 2
      have f3 := HP8.out.1.rt.frozen 3
      have f4 := HP8.out.1.rt.frozen 4
      have s0 : W8.cell? ⟨b + 1, 0, none⟩ = some (.int .u8 0) := HP8.out.1.rs.cell 0
      have s1 : W8.cell? ⟨b + 1, 1, none⟩ = some (.int .i64 0) := HP8.out.1.rs.cell 1
      have s2 : W8.cell? ⟨b + 1, 2, none⟩ = some (.int .i64 0) := HP8.out.1.rs.cell 2
      have s3 : W8.cell? ⟨b + 1, 3, none⟩ = some (.slice none 0 0) := HP8.out.1.rs.cell 3
      have s4 : W8.cell? ⟨b + 1, 4, none⟩ = some (.int .i64 0) := HP8.out.1.rs.cell 4
      have g0 := HP8.out.1.rs.frozen 0
      have g1 := HP8.out.1.rs.frozen 1
      have g2 := HP8.out.1.rs.frozen 2
      have g3 := HP8.out.1.rs.frozen 3
      have g4 := HP8.out.1.rs.frozen 4
      have lr : r < W8.heap.size := HP8.out.1.rt.lt
      have lb : b + 1 < W8.heap.size := HP8.out.1.rs.lt
      have hrb : b + 1 < r := by have := HRB.out; omega
      cases nv with
      | none =>
        have p0 : W8.cell? ⟨r + 1 + 1, 0, none⟩ = some (.int .i64 at_.1) := HP8.out.1.pt.cell 0
        have p1 : W8.cell? ⟨r + 1 + 1, 1, none⟩ = some (.int .i64 at_.2) := HP8.out.1.pt.cell 1
        have pf0 := HP8.out.1.pt.frozen 0
        have pf1 := HP8.out.1.pt.frozen 1
        have lp : r + 1 + 1 < W8.heap.size := HP8.out.1.pt.lt
        dsimp only [Option.getD, Option.isSome] at hlk
        go_wp2
        refine wp_goto ?_
        change (0 : Nat) = 0 ∧ FwJ A n c l s d cd F w b r _ _ ∧ fwM l.length r _ < fwM l.length r W
        have hB9 := HP8.out.1.mv HRB.out H1.out.2.2.2.2.symm hp.to
        have hmp : (hs ++ [hp]).map (·.frm) = hs.map (·.frm) ++ [at_] := by simp [HN.out.2.2.1]
        rw [← hmp] at hB9
        have hway := HP.out.2.2.1.on HN.out.2.2.2 (by rw [← HST.out]; exact HN.out.2.1.symm)
        rw [← HST.out] at hway
        refine ⟨rfl, ⟨hp.to, hs ++ [hp], .slice (some ⟨gh, 0, none⟩) (hs.length + 1) ch, rfl, rfl, rfl, ⟨hB9, hway, ⟨q, by have := HP.out.2.2.2.1; simp; omega, ?_⟩⟩⟩, ?_⟩
        · rw [HP.out.2.1, Pe.followFrom, if_neg HNB.out, if_neg HNR.out, ← HST.out]
          simp only
          rw [if_neg (by decide), if_pos trivial, ← HN.out.2.1]
        · rw [fwM_eq hB9.map, fwM_eq HP.out.2.2.2.2.map]
          have := HP.out.2.2.1.short
          simp only [List.length_map, List.length_append, List.length_cons, List.length_nil]
          omega
      | some j =>
        have HF3 := Lib.hid (show F = ((⟨6, hp.to, hs ++ [hp], j⟩ : Pe.Route), 0) by
          rw [HP.out.2.1, Pe.followFrom, if_neg HNB.out, if_neg HNR.out, ← HST.out]
          simp only
          rw [if_neg (by decide), if_pos trivial, ← HN.out.2.1])
        dsimp only [Option.getD, Option.isSome] at hlk
        go_wp2_with fail
        go_region
        go_wp2
        simp only [Exit.jump]
        obtain ⟨z1, z2, z3⟩ := FwB.fin ((((HP8.out.1.set HRB.out H1.out.2.2.2.2.symm 0 (.int .u8 6)).set HRB.out H1.out.2.2.2.2.symm 1 (.int .i64 hp.to.1)).set HRB.out H1.out.2.2.2.2.symm 2 (.int .i64 hp.to.2)).set HRB.out H1.out.2.2.2.2.symm 4 (.int .i64 (j : Int))) HRB.out H1.out.2.2.2.2.symm (.int .u8 6) (.int .i64 hp.to.1) (.int .i64 hp.to.2) (.slice (some ⟨gh, 0, none⟩) (hs.length + 1) ch) (.int .i64 (j : Int))
        have z4 := own_below z2 ((Below.refl _ _).drew)
        refine bodyPost_ret (results_row2 (P := Tryz.prog) (fn := Tryz.f18) rfl _ _ (b + 1) #[(.int .u8 6), (.int .i64 hp.to.1), (.int .i64 hp.to.2), (.slice (some ⟨gh, 0, none⟩) (hs.length + 1) ch), (.int .i64 (j : Int))] _ rfl z1.drew Tryz.underlying34 rfl infoRoute) rfl ⟨⟨(.slice (some ⟨gh, 0, none⟩) (hs.length + 1) ch), ?_, ?_⟩, z3.drew⟩
        · rw [HF3.out]; rfl
        · rw [HF3.out]; exact z4
  case first =>
  intro hpass
  have HPASS := Lib.hid hpass
  clear hpass
  cases hfa : Pe.followArg cd s d
  · have r0 : w1.cell? ⟨b + 1, 0, none⟩ = some (.int .u8 0) := H1.out.2.2.1.cell 0
    have r1 : w1.cell? ⟨b + 1, 1, none⟩ = some (.int .i64 0) := H1.out.2.2.1.cell 1
    have r2 : w1.cell? ⟨b + 1, 2, none⟩ = some (.int .i64 0) := H1.out.2.2.1.cell 2
    have r3 : w1.cell? ⟨b + 1, 3, none⟩ = some (.slice none 0 0) := H1.out.2.2.1.cell 3
    have r4 : w1.cell? ⟨b + 1, 4, none⟩ = some (.int .i64 0) := H1.out.2.2.1.cell 4
    have f0 := H1.out.2.2.1.frozen 0
    have f1 := H1.out.2.2.1.frozen 1
    have f2 := H1.out.2.2.1.frozen 2
    have f3 := H1.out.2.2.1.frozen 3
    have f4 := H1.out.2.2.1.frozen 4
    have hFF : F = (Pe.noRoute, 1) := by rw [HF.out, Pe.follow, hfa]; rfl
    have HFF := Lib.hid hFF
    clear hFF
    have i1 := fun w => id_calls cd.1 w
    have i2 := fun w => id_calls cd.2 w
    have i3 := fun w => idOr_calls s w
    unfold Pe.followArg at hfa
    cases q1 : Pe.isId cd.1
    · rw [q1] at i1
      have HI := Lib.hid (And.intro i1 (And.intro i2 i3))
      clear i1 i2 i3 hfa q1
      go_wp2_with fail
      refine (HI.out.1 _).mono ?_
      rintro e w2 ⟨rfl, rfl⟩
      dsimp only
      go_wp2
      simp only [Exit.jump]
      refine bodyPost_ret (results_row2 (P := Tryz.prog) (fn := Tryz.f18) rfl _ _ (b + 1) #[.int .u8 0, .int .i64 0, .int .i64 0, .slice none 0 0, .int .i64 0] _ rfl (((((H1.out.2.2.1.put 0 (.int .u8 0)).put 1 (.int .i64 0)).put 2 (.int .i64 0)).put 3 (.slice none 0 0)).put 4 (.int .i64 0)) Tryz.underlying34 rfl infoRoute) rfl ⟨⟨.slice none 0 0, ?_, ?_⟩, ?_⟩
      · rw [HFF.out]; rfl
      · rw [HFF.out]; exact World.ownsRow_nil _ _ _ _
      · exact ((((H1.out.1.setCell (p := ⟨b + 1, 0, none⟩) (by have := H1.out.2.2.2.2; simp; omega) _).setCell (p := ⟨b + 1, 1, none⟩) (by have := H1.out.2.2.2.2; simp; omega) _).setCell (p := ⟨b + 1, 2, none⟩) (by have := H1.out.2.2.2.2; simp; omega) _).setCell (p := ⟨b + 1, 3, none⟩) (by have := H1.out.2.2.2.2; simp; omega) _).setCell (p := ⟨b + 1, 4, none⟩) (by have := H1.out.2.2.2.2; simp; omega) _
    · rw [q1] at i1
      cases q2 : Pe.isId cd.2
      · rw [q2] at i2
        have HI := Lib.hid (And.intro i1 (And.intro i2 i3))
        clear i1 i2 i3 hfa q1 q2
        go_wp2_with fail
        refine (HI.out.1 _).mono ?_
        rintro e w2 ⟨rfl, rfl⟩
        dsimp only
        go_wp2_with fail
        refine (HI.out.2.1 _).mono ?_
        rintro e w2 ⟨rfl, rfl⟩
        dsimp only
        go_wp2
        simp only [Exit.jump]
        refine bodyPost_ret (results_row2 (P := Tryz.prog) (fn := Tryz.f18) rfl _ _ (b + 1) #[.int .u8 0, .int .i64 0, .int .i64 0, .slice none 0 0, .int .i64 0] _ rfl (((((H1.out.2.2.1.put 0 (.int .u8 0)).put 1 (.int .i64 0)).put 2 (.int .i64 0)).put 3 (.slice none 0 0)).put 4 (.int .i64 0)) Tryz.underlying34 rfl infoRoute) rfl ⟨⟨.slice none 0 0, ?_, ?_⟩, ?_⟩
        · rw [HFF.out]; rfl
        · rw [HFF.out]; exact World.ownsRow_nil _ _ _ _
        · exact ((((H1.out.1.setCell (p := ⟨b + 1, 0, none⟩) (by have := H1.out.2.2.2.2; simp; omega) _).setCell (p := ⟨b + 1, 1, none⟩) (by have := H1.out.2.2.2.2; simp; omega) _).setCell (p := ⟨b + 1, 2, none⟩) (by have := H1.out.2.2.2.2; simp; omega) _).setCell (p := ⟨b + 1, 3, none⟩) (by have := H1.out.2.2.2.2; simp; omega) _).setCell (p := ⟨b + 1, 4, none⟩) (by have := H1.out.2.2.2.2; simp; omega) _
      · rw [q2] at i2
        cases q3 : Pe.idOr s
        · rw [q3] at i3
          have HI := Lib.hid (And.intro i1 (And.intro i2 i3))
          clear i1 i2 i3 hfa q1 q2 q3
          go_wp2_with fail
          refine (HI.out.1 _).mono ?_
          rintro e w2 ⟨rfl, rfl⟩
          dsimp only
          go_wp2_with fail
          refine (HI.out.2.1 _).mono ?_
          rintro e w2 ⟨rfl, rfl⟩
          dsimp only
          go_wp2_with fail
          refine (HI.out.2.2 _).mono ?_
          rintro e w2 ⟨rfl, rfl⟩
          dsimp only
          go_wp2
          simp only [Exit.jump]
          refine bodyPost_ret (results_row2 (P := Tryz.prog) (fn := Tryz.f18) rfl _ _ (b + 1) #[.int .u8 0, .int .i64 0, .int .i64 0, .slice none 0 0, .int .i64 0] _ rfl (((((H1.out.2.2.1.put 0 (.int .u8 0)).put 1 (.int .i64 0)).put 2 (.int .i64 0)).put 3 (.slice none 0 0)).put 4 (.int .i64 0)) Tryz.underlying34 rfl infoRoute) rfl ⟨⟨.slice none 0 0, ?_, ?_⟩, ?_⟩
          · rw [HFF.out]; rfl
          · rw [HFF.out]; exact World.ownsRow_nil _ _ _ _
          · exact ((((H1.out.1.setCell (p := ⟨b + 1, 0, none⟩) (by have := H1.out.2.2.2.2; simp; omega) _).setCell (p := ⟨b + 1, 1, none⟩) (by have := H1.out.2.2.2.2; simp; omega) _).setCell (p := ⟨b + 1, 2, none⟩) (by have := H1.out.2.2.2.2; simp; omega) _).setCell (p := ⟨b + 1, 3, none⟩) (by have := H1.out.2.2.2.2; simp; omega) _).setCell (p := ⟨b + 1, 4, none⟩) (by have := H1.out.2.2.2.2; simp; omega) _
        · rw [q3] at i3
          rw [q1, q2, q3] at hfa
          have HI := Lib.hid (And.intro i1 (And.intro i2 i3))
          clear i1 i2 i3 q1 q2 q3
          by_cases d0 : d < 0
          · have d1 : decide (d < 0) = true := by simpa using d0
            clear hfa d0
            go_wp2_with fail
            refine (HI.out.1 _).mono ?_
            rintro e w2 ⟨rfl, rfl⟩
            dsimp only
            go_wp2_with fail
            refine (HI.out.2.1 _).mono ?_
            rintro e w2 ⟨rfl, rfl⟩
            dsimp only
            go_wp2_with fail
            refine (HI.out.2.2 _).mono ?_
            rintro e w2 ⟨rfl, rfl⟩
            dsimp only
            go_wp2
            simp only [Exit.jump]
            refine bodyPost_ret (results_row2 (P := Tryz.prog) (fn := Tryz.f18) rfl _ _ (b + 1) #[.int .u8 0, .int .i64 0, .int .i64 0, .slice none 0 0, .int .i64 0] _ rfl (((((H1.out.2.2.1.put 0 (.int .u8 0)).put 1 (.int .i64 0)).put 2 (.int .i64 0)).put 3 (.slice none 0 0)).put 4 (.int .i64 0)) Tryz.underlying34 rfl infoRoute) rfl ⟨⟨.slice none 0 0, ?_, ?_⟩, ?_⟩
            · rw [HFF.out]; rfl
            · rw [HFF.out]; exact World.ownsRow_nil _ _ _ _
            · exact ((((H1.out.1.setCell (p := ⟨b + 1, 0, none⟩) (by have := H1.out.2.2.2.2; simp; omega) _).setCell (p := ⟨b + 1, 1, none⟩) (by have := H1.out.2.2.2.2; simp; omega) _).setCell (p := ⟨b + 1, 2, none⟩) (by have := H1.out.2.2.2.2; simp; omega) _).setCell (p := ⟨b + 1, 3, none⟩) (by have := H1.out.2.2.2.2; simp; omega) _).setCell (p := ⟨b + 1, 4, none⟩) (by have := H1.out.2.2.2.2; simp; omega) _
          · have d1 : decide (d < 0) = false := by simpa using d0
            have d2 : decide (100000 < d) = true := by
              simp only [Bool.true_and, Bool.and_eq_false_iff, decide_eq_false_iff_not] at hfa
              have : 100000 < d := by omega
              simpa using this
            clear hfa d0
            go_wp2_with fail
            refine (HI.out.1 _).mono ?_
            rintro e w2 ⟨rfl, rfl⟩
            dsimp only
            go_wp2_with fail
            refine (HI.out.2.1 _).mono ?_
            rintro e w2 ⟨rfl, rfl⟩
            dsimp only
            go_wp2_with fail
            refine (HI.out.2.2 _).mono ?_
            rintro e w2 ⟨rfl, rfl⟩
            dsimp only
            go_wp2
            simp only [Exit.jump]
            refine bodyPost_ret (results_row2 (P := Tryz.prog) (fn := Tryz.f18) rfl _ _ (b + 1) #[.int .u8 0, .int .i64 0, .int .i64 0, .slice none 0 0, .int .i64 0] _ rfl (((((H1.out.2.2.1.put 0 (.int .u8 0)).put 1 (.int .i64 0)).put 2 (.int .i64 0)).put 3 (.slice none 0 0)).put 4 (.int .i64 0)) Tryz.underlying34 rfl infoRoute) rfl ⟨⟨.slice none 0 0, ?_, ?_⟩, ?_⟩
            · rw [HFF.out]; rfl
            · rw [HFF.out]; exact World.ownsRow_nil _ _ _ _
            · exact ((((H1.out.1.setCell (p := ⟨b + 1, 0, none⟩) (by have := H1.out.2.2.2.2; simp; omega) _).setCell (p := ⟨b + 1, 1, none⟩) (by have := H1.out.2.2.2.2; simp; omega) _).setCell (p := ⟨b + 1, 2, none⟩) (by have := H1.out.2.2.2.2; simp; omega) _).setCell (p := ⟨b + 1, 3, none⟩) (by have := H1.out.2.2.2.2; simp; omega) _).setCell (p := ⟨b + 1, 4, none⟩) (by have := H1.out.2.2.2.2; simp; omega) _
  · have i1 := fun w => id_calls cd.1 w
    have i2 := fun w => id_calls cd.2 w
    have i3 := fun w => idOr_calls s w
    unfold Pe.followArg at hfa
    simp only [Bool.and_eq_true, decide_eq_true_eq] at hfa
    rw [hfa.1.1.1.1] at i1
    rw [hfa.1.1.1.2] at i2
    rw [hfa.1.1.2] at i3
    have d1 : decide (d < 0) = false := by have := hfa.1.2; simp; omega
    have d2 : decide (100000 < d) = false := by have := hfa.2; simp; omega
    have HI := Lib.hid (And.intro i1 (And.intro i2 (And.intro i3 hfa)))
    clear i1 i2 i3 hfa
    go_wp2_with fail
    refine (HI.out.1 _).mono ?_
    rintro e w2 ⟨rfl, rfl⟩
    dsimp only
    go_wp2_with fail
    refine (HI.out.2.1 _).mono ?_
    rintro e w2 ⟨rfl, rfl⟩
    dsimp only
    go_wp2_with fail
    refine (HI.out.2.2.1 _).mono ?_
    rintro e w2 ⟨rfl, rfl⟩
    dsimp only
    go_wp2_with fail
    go_step3
    have hrb := HRB.out
    have hr := HRR.out
    rw [← hr]
    have b2 : Below w1.heap.size w1 (((w1.alloc (.cells #[.int .u8 0, .int .i64 0, .int .i64 0, .slice none 0 0, .int .i64 0] 34)).alloc (.map #[] 0)).alloc (.cells #[.int .i64 cd.1, .int .i64 cd.2] 28)) := (((Below.refl _ w1).alloc (Nat.le_refl _) _).alloc (by simp) _).alloc (by simp; omega) _
    have hR := ((Blk.fresh w1 34 #[.int .u8 0, .int .i64 0, .int .i64 0, .slice none 0 0, .int .i64 0]).alloc (.map #[] 0)).alloc (.cells #[.int .i64 cd.1, .int .i64 cd.2] 28)
    have hM : CMap (((w1.alloc (.cells #[.int .u8 0, .int .i64 0, .int .i64 0, .slice none 0 0, .int .i64 0] 34)).alloc (.map #[] 0)).alloc (.cells #[.int .i64 cd.1, .int .i64 cd.2] 28)) (r + 1) [] := by
      have h0 : (((w1.alloc (.cells #[.int .u8 0, .int .i64 0, .int .i64 0, .slice none 0 0, .int .i64 0] 34)).alloc (.map #[] 0)).alloc (.cells #[.int .i64 cd.1, .int .i64 cd.2] 28)).heap[w1.heap.size + 1]? = some (.map #[] 0) := by
        have h1 := heap_alloc_new (w1.alloc (.cells #[.int .u8 0, .int .i64 0, .int .i64 0, .slice none 0 0, .int .i64 0] 34)) (.map #[] 0)
        rw [World.size_alloc] at h1
        exact (Below.heap_alloc _ _ _ (by simp)).trans h1
      rw [hr]; exact h0
    have hP := Blk.fresh ((w1.alloc (.cells #[.int .u8 0, .int .i64 0, .int .i64 0, .slice none 0 0, .int .i64 0] 34)).alloc (.map #[] 0)) 28 #[.int .i64 cd.1, .int .i64 cd.2]
    simp only [World.size_alloc] at hP
    rw [← hr] at hR hP
    simp only [Exit.then]
    apply_assumption
    refine (HPASS.out _ _ ⟨cd, [], .slice none 0 0, rfl, rfl, rfl, ⟨hR, H1.out.2.2.1.below b2 H1.out.2.2.1.lt, hP, hM, World.ownsRow_nil _ _ _ _, H1.out.1.trans (b2.mono H1.out.1.size)⟩, Pe.OnWay.start l d cd, ⟨l.length + 2, by simp, ?_⟩⟩)
    have hfa : Pe.followArg cd s d = true := by
      unfold Pe.followArg
      simp only [Bool.and_eq_true, decide_eq_true_eq]
      exact HI.out.2.2.2
    rw [HF.out, Pe.follow, if_pos hfa]

end Go.Proofs.YtnphlekailodkaaGreatDoor
