/-
  The end of a route is what its kind says: the plain law, and the law's walk.
-/
import Derived.Test.YtfalajomfcfliaaGreatDoorAv2
import Derived.Test.YtfalajomfcfliaaGreatDoorLa
namespace Go.Proofs.YtfalajomfcfliaaGreatDoor
open Go.RowKit

namespace Pe
/-- What the kind of a route says of its end. -/
structure HouseOk (l : List Ent) (s d : Int) (R : Route) : Prop where
  k1 : R.kind = 1 → lives l R.fin d = true ∧ dead l R.fin.1 d = false ∧ refuses l R.fin s d = false ∧ order? l R.fin d = none
  k2 : R.kind = 2 → refuses l R.fin s d = true ∧ dead l R.fin.1 d = false
  k3 : R.kind = 3 → dead l R.fin.1 d = true ∧ heir? l R.fin.1 d = none
  k4 : R.kind = 4 → lives l R.fin d = false ∧ refuses l R.fin s d = false ∧ order? l R.fin d = none ∧ dead l R.fin.1 d = false
  k5 : R.kind = 5 → dead l R.fin.1 d = false ∧ home? l R.fin.1 d = none ∧ R.fin.2 = 0
  k6 : R.kind ≤ 6
theorem reached_not {l : List Ent} {p d : Int} (h : ¬ (reached l p d).2 = true) : dead l p d = false ∧ home? l p d = none := by
  unfold reached at h
  by_cases hd : dead l p d = true
  · rw [if_pos hd] at h; exact absurd rfl h
  · rw [if_neg hd] at h
    refine ⟨by simpa using hd, ?_⟩
    cases hh : home? l p d with
    | none => rfl
    | some v => rw [hh] at h; exact absurd rfl h
theorem step_one {l : List Ent} {c : Pair} {d : Int} (h : (step l c d).2 = 1) : dead l (step l c d).1.to.1 d = false ∧ home? l (step l c d).1.to.1 d = none ∧ (step l c d).1.to.2 = 0 := by
  unfold step at h ⊢
  split
  · rename_i hd
    rw [if_pos hd] at h
    split
    · rename_i hh; simp only [hh] at h; cases h
    · rename_i p hh
      simp only [hh] at h
      split
      · rename_i hr; rw [if_pos hr] at h; cases h
      · rename_i hr
        exact ⟨(reached_not hr).1, (reached_not hr).2, rfl⟩
  · rename_i hd
    rw [if_neg hd] at h
    split
    · rename_i hh; simp only [hh] at h; cases h
    · rename_i x hh
      simp only [hh] at h
      split
      · rename_i hr; rw [if_pos hr] at h; cases h
      · rename_i hr
        unfold target at hr
        split at hr
        · exact absurd rfl hr
        · exact ⟨(reached_not hr).1, (reached_not hr).2, rfl⟩
theorem step_none {l : List Ent} {c : Pair} {d : Int} (h1 : ¬ (step l c d).2 = 1) (h2 : ¬ (step l c d).2 = 2) (h3 : ¬ (dead l c.1 d = true ∧ heir? l c.1 d = none)) : dead l c.1 d = false ∧ order? l c d = none := by
  unfold step at h1 h2
  by_cases hd : dead l c.1 d = true
  · exfalso
    rw [if_pos hd] at h1 h2
    cases hh : heir? l c.1 d with
    | none => exact h3 ⟨hd, hh⟩
    | some p =>
      simp only [hh] at h1 h2
      by_cases hr : (reached l p d).2 = true
      · rw [if_pos hr] at h2; exact h2 rfl
      · rw [if_neg hr] at h1; exact h1 rfl
  · rw [if_neg hd] at h1 h2
    refine ⟨by simpa using hd, ?_⟩
    cases hh : order? l c d with
    | none => rfl
    | some x =>
      exfalso
      simp only [hh] at h1 h2
      by_cases hr : (target l x d).2 = true
      · rw [if_pos hr] at h2; exact h2 rfl
      · rw [if_neg hr] at h1; exact h1 rfl
theorem follow_house (l : List Ent) (s d : Int) : ∀ (n : Nat) (c : Pair) (hs : List Hop), HouseOk l s d (followFrom l s d n c hs)
  | 0, c, hs => ⟨(fun h => by cases h), (fun h => by cases h), (fun h => by cases h), (fun h => by cases h), (fun h => by cases h), Nat.le_of_ble_eq_true rfl⟩
  | n + 1, c, hs => by
    unfold followFrom
    split
    · rename_i h
      exact ⟨(fun h => by cases h), (fun h => by cases h), fun _ => h, (fun h => by cases h), (fun h => by cases h), Nat.le_of_ble_eq_true rfl⟩
    rename_i h1
    split
    · rename_i h2
      refine ⟨(fun h => by cases h), fun _ => ⟨h2, ?_⟩, (fun h => by cases h), (fun h => by cases h), (fun h => by cases h), Nat.le_of_ble_eq_true rfl⟩
      unfold refuses at h2
      simp only [Bool.and_eq_true, Bool.not_eq_true'] at h2
      exact h2.1
    rename_i h2
    split
    · rename_i h3
      exact ⟨(fun h => by cases h), (fun h => by cases h), (fun h => by cases h), (fun h => by cases h), fun _ => step_one h3, Nat.le_of_ble_eq_true rfl⟩
    rename_i h3
    split
    · rename_i h4
      split
      · exact ⟨(fun h => by cases h), (fun h => by cases h), (fun h => by cases h), (fun h => by cases h), (fun h => by cases h), Nat.le_of_ble_eq_true rfl⟩
      · exact follow_house l s d n _ _
    rename_i h4
    obtain ⟨hd, ho⟩ := step_none h3 h4 h1
    have hr : refuses l c s d = false := by simpa using h2
    cases hl : lives l c d with
    | true => exact ⟨fun _ => ⟨hl, hd, hr, ho⟩, (fun h => by cases h), (fun h => by cases h), (fun h => by cases h), (fun h => by cases h), by simp⟩
    | false => exact ⟨(fun h => by cases h), (fun h => by cases h), (fun h => by cases h), fun _ => ⟨hl, hr, ho, hd⟩, (fun h => by cases h), by simp⟩
theorem follow_zero {l : List Ent} {c : Pair} {s d : Int} (h : (follow l c s d).2 = 0) : (follow l c s d).1 = followFrom l s d (l.length + 2) c [] := by
  unfold follow at h ⊢
  by_cases ha : followArg c s d = true
  · rw [if_pos ha]
  · rw [if_neg ha] at h; cases h
end Pe

set_option maxRecDepth 1000000 in
set_option maxHeartbeats 2000000 in
theorem Few_calls (A : Option Addr) (n c : Nat) (w : World) : Calls Tryz.prog 23 #[.slice A n c] w fun e w' => e = .returned (.bool (decide (n ≤ 60))) ∧ w' = w := by
  by_cases h : n ≤ 60
  · have d1 : decide ((n : Int) ≤ 60) = true := by simp; omega
    have h2 : decide (n ≤ 60) = true := by simpa using h
    rw [h2]
    clear h2 h
    go_enter Tryz.func23, Tryz.ntmps23
    go_wp2
    go_ret
    exact ⟨rfl, rfl⟩
  · have d1 : decide ((n : Int) ≤ 60) = false := by simp; omega
    have h2 : decide (n ≤ 60) = false := by simpa using h
    rw [h2]
    clear h2 h
    go_enter Tryz.func23, Tryz.ntmps23
    go_wp2
    go_ret
    exact ⟨rfl, rfl⟩

set_option maxRecDepth 1000000 in
set_option maxHeartbeats 8000000 in
theorem houses_law (A : Option Addr) (n c : Nat) (l : List Pe.Ent) (cd : Pe.Pair) (s d : Int) (w : World) (h : EntsAt w A n l) (hL : Laid w) :
    Calls Tryz.prog 12 #[.slice A n c, .agg (pCells cd), .int .i64 s, .int .i64 d] w (Law w) := by
  have H := Lib.hid (And.intro h hL)
  clear h hL
  have hfe := fun w0 => Few_calls A n c w0
  have HFE := Lib.hid hfe
  clear hfe
  go_enter Tryz.func12, Tryz.ntmps12
  unfold pCells
  go_upto_region 1 with fail
  obtain ⟨b, hb⟩ : ∃ b, b = w.heap.size := ⟨_, rfl⟩
  obtain ⟨w1, hw1⟩ : ∃ w1, w1 = w.alloc (.cells (pCells cd) 40) := ⟨_, rfl⟩
  have hb1 : Below w.heap.size w w1 := by rw [hw1]; exact (Below.refl _ w).alloc (Nat.le_refl _) _
  have hc1 : Blk w1 b 40 (pCells cd) := by rw [hw1, hb]; exact Blk.fresh _ _ _
  unfold pCells at hw1
  rw [← hb, ← hw1]
  have H1 := Lib.hid (And.intro hb1 hc1)
  have k0 : w1.cell? ⟨b, 0, none⟩ = some (.int .i64 cd.1) := hc1.cell 0
  have k1 : w1.cell? ⟨b, 1, none⟩ = some (.int .i64 cd.2) := hc1.cell 1
  clear hb1 hc1 hw1 hb
  by_cases hfew : n ≤ 60
  case neg =>
    have d1 : decide (n ≤ 60) = false := by simpa using hfew
    have HD := Lib.hid d1
    clear d1 hfew
    go_wp2_with fail
    refine (HFE.out w1).mono ?_
    rintro e w2 ⟨rfl, rfl⟩
    rw [HD.out]
    dsimp only
    go_wp2_with fail
    refine (alive_calls w2 (H.out.2.below H1.out.1)).mono ?_
    rintro e wy ⟨rfl, hby⟩
    have HY := Lib.hid (H1.out.1.trans (hby.mono H1.out.1.size))
    clear hby
    dsimp only
    go_wp2
    go_ret
    exact ⟨rfl, HY.out⟩
  have d1 : decide (n ≤ 60) = true := by simpa using hfew
  have HD := Lib.hid (And.intro d1 hfew)
  clear d1 hfew
  go_wp2_with fail
  refine (HFE.out w1).mono ?_
  rintro e w2 ⟨rfl, rfl⟩
  rw [HD.out.1]
  dsimp only
  have hfc := Follow_calls A n c l cd s d w2 (H.out.1.below H1.out.1) (by have := HD.out.2; omega)
  unfold pCells at hfc
  have HFC := Lib.hid hfc
  clear hfc
  go_wp2_with fail
  refine HFC.out.mono ?_
  rintro e w3 ⟨⟨v, rfl, ho⟩, hb3⟩
  have hfz := Pe.follow_zero (l := l) (c := cd) (s := s) (d := d)
  obtain ⟨⟨R, q⟩, hR⟩ : ∃ z, z = Pe.follow l cd s d := ⟨_, rfl⟩
  rw [← hR] at ho hfz ⊢
  obtain ⟨nh, hnh⟩ : ∃ nh, nh = R.hops.length := ⟨_, rfl⟩
  dsimp only at ho hfz
  rw [← hnh] at ho
  obtain ⟨A3, c3, rfl, _, _⟩ := own_shape ho
  have H3 := Lib.hid (And.intro (H1.out.1.trans (hb3.mono H1.out.1.size)) hfz)
  clear ho hb3 hR hnh hfz k0 k1
  obtain ⟨⟨ep, eq⟩, hep⟩ : ∃ z, z = R.fin := ⟨_, rfl⟩
  obtain ⟨kd, hkd⟩ : ∃ kd, kd = R.kind := ⟨_, rfl⟩
  unfold rCells
  rw [← hep, ← hkd]
  dsimp only
  by_cases hq0 : q = 0
  case neg =>
    have d2 : (q != 0) = true := by simpa using hq0
    clear hq0 hep hkd
    go_upto_region 4 with fail
    obtain ⟨w4, hw4⟩ : ∃ w4, w4 = w3.alloc (.cells #[.int .u8 (kd : Int), .int .i64 ep, .int .i64 eq, .slice A3 nh c3, .int .i64 (R.back : Int)] 51) := ⟨_, rfl⟩
    have hb4 : Below w.heap.size w w4 := by rw [hw4]; exact H3.out.1.alloc H3.out.1.size _
    rw [← hw4]
    have H4 := Lib.hid hb4
    clear hb4 hw4
    go_wp2_with fail
    refine (alive_calls w4 (H.out.2.below H4.out)).mono ?_
    rintro e wy ⟨rfl, hby⟩
    have HY := Lib.hid (H4.out.trans (hby.mono H4.out.size))
    clear hby
    dsimp only
    go_wp2
    go_ret
    exact ⟨rfl, HY.out⟩
  subst hq0
  have hok := Pe.follow_house l s d (l.length + 2) cd []
  rw [← H3.out.2 rfl] at hok
  have HOK := Lib.hid (And.intro hok (And.intro hep hkd))
  clear hok hep hkd
  go_upto_region 4 with fail
  obtain ⟨g, hg⟩ : ∃ g, g = w3.heap.size := ⟨_, rfl⟩
  obtain ⟨w4, hw4⟩ : ∃ w4, w4 = w3.alloc (.cells #[.int .u8 (kd : Int), .int .i64 ep, .int .i64 eq, .slice A3 nh c3, .int .i64 (R.back : Int)] 51) := ⟨_, rfl⟩
  have hb4 : Below w.heap.size w w4 := by rw [hw4]; exact H3.out.1.alloc H3.out.1.size _
  have hg4 : Blk w4 g 51 #[.int .u8 (kd : Int), .int .i64 ep, .int .i64 eq, .slice A3 nh c3, .int .i64 (R.back : Int)] := by rw [hw4, hg]; exact Blk.fresh _ _ _
  rw [← hg, ← hw4]
  have H4 := Lib.hid (And.intro hb4 hg4)
  clear hb4 hg4 hw4 hg
  have k0 : w4.cell? ⟨g, 0, none⟩ = some (.int .u8 (kd : Int)) := H4.out.2.cell 0
  have k1 : w4.cell? ⟨g, 1, none⟩ = some (.int .i64 ep) := H4.out.2.cell 1
  have k2 : w4.cell? ⟨g, 2, none⟩ = some (.int .i64 eq) := H4.out.2.cell 2
  have hcc := Dead_calls A n c l ep d w4 (H.out.1.below H4.out.1)
  obtain ⟨dv, hdv⟩ : ∃ x, x = Pe.dead l ep d := ⟨_, rfl⟩
  rw [← hdv] at hcc
  skip
  have HCC := Lib.hid hcc
  have Hdv := Lib.hid hdv
  clear hcc hdv
  go_wp2_with fail
  refine HCC.out.mono ?_
  rintro e w5 ⟨rfl, hb⟩
  have H5 := Lib.hid (And.intro (H4.out.1.trans (hb.mono H4.out.1.size)) (H4.out.2.below hb H4.out.2.lt))
  clear hb k0 k1 k2 HCC
  dsimp only
  have k0 : w5.cell? ⟨g, 0, none⟩ = some (.int .u8 (kd : Int)) := H5.out.2.cell 0
  have k1 : w5.cell? ⟨g, 1, none⟩ = some (.int .i64 ep) := H5.out.2.cell 1
  have k2 : w5.cell? ⟨g, 2, none⟩ = some (.int .i64 eq) := H5.out.2.cell 2
  have hcc := Lives_calls A n c l (ep, eq) d w5 (H.out.1.below H5.out.1) (by have := HD.out.2; omega)
  obtain ⟨lv, hlv⟩ : ∃ x, x = Pe.lives l (ep, eq) d := ⟨_, rfl⟩
  rw [← hlv] at hcc
  unfold pCells at hcc
  have HCC := Lib.hid hcc
  have Hlv := Lib.hid hlv
  clear hcc hlv
  go_wp2_with fail
  refine HCC.out.mono ?_
  rintro e w6 ⟨rfl, hb⟩
  have H6 := Lib.hid (And.intro (H5.out.1.trans (hb.mono H5.out.1.size)) (H5.out.2.below hb H5.out.2.lt))
  clear hb k0 k1 k2 HCC
  dsimp only
  have k0 : w6.cell? ⟨g, 0, none⟩ = some (.int .u8 (kd : Int)) := H6.out.2.cell 0
  have k1 : w6.cell? ⟨g, 1, none⟩ = some (.int .i64 ep) := H6.out.2.cell 1
  have k2 : w6.cell? ⟨g, 2, none⟩ = some (.int .i64 eq) := H6.out.2.cell 2
  have hcc := Refuses_calls A n c l (ep, eq) s d w6 (H.out.1.below H6.out.1)
  obtain ⟨fv, hfv⟩ : ∃ x, x = Pe.refuses l (ep, eq) s d := ⟨_, rfl⟩
  rw [← hfv] at hcc
  unfold pCells at hcc
  have HCC := Lib.hid hcc
  have Hfv := Lib.hid hfv
  clear hcc hfv
  go_wp2_with fail
  refine HCC.out.mono ?_
  rintro e w7 ⟨rfl, hb⟩
  have H7 := Lib.hid (And.intro (H6.out.1.trans (hb.mono H6.out.1.size)) (H6.out.2.below hb H6.out.2.lt))
  clear hb k0 k1 k2 HCC
  dsimp only
  obtain ⟨z, hz⟩ : ∃ z, z = (Pe.order? l (ep, eq) d).getD Pe.zero := ⟨_, rfl⟩
  have k0 : w7.cell? ⟨g, 0, none⟩ = some (.int .u8 (kd : Int)) := H7.out.2.cell 0
  have k1 : w7.cell? ⟨g, 1, none⟩ = some (.int .i64 ep) := H7.out.2.cell 1
  have k2 : w7.cell? ⟨g, 2, none⟩ = some (.int .i64 eq) := H7.out.2.cell 2
  have hcc := Order_calls A n c l (ep, eq) d w7 (H.out.1.below H7.out.1)
  obtain ⟨ov, hov⟩ : ∃ x, x = (Pe.order? l (ep, eq) d).isSome := ⟨_, rfl⟩
  rw [← hov] at hcc
  rw [← hz] at hcc; unfold pCells eCells at hcc; clear hz
  have HCC := Lib.hid hcc
  have Hov := Lib.hid hov
  clear hcc hov
  go_wp2_with fail
  refine HCC.out.mono ?_
  rintro e w8 ⟨rfl, hb⟩
  have H8 := Lib.hid (And.intro (H7.out.1.trans (hb.mono H7.out.1.size)) (H7.out.2.below hb H7.out.2.lt))
  clear hb k0 k1 k2 HCC
  dsimp only
  go_upto_region 10 with fail
  obtain ⟨w8', hw8⟩ : ∃ w8', w8' = w8.alloc (.cells (eCells z) 29) := ⟨_, rfl⟩
  have hb8 : Below w.heap.size w w8' := by rw [hw8]; exact H8.out.1.alloc H8.out.1.size _
  have hg8 : Blk w8' g 51 #[.int .u8 (kd : Int), .int .i64 ep, .int .i64 eq, .slice A3 nh c3, .int .i64 (R.back : Int)] := by rw [hw8]; exact H8.out.2.alloc _
  unfold eCells at hw8
  rw [← hw8]
  clear H8
  have H8 := Lib.hid (And.intro hb8 hg8)
  clear hb8 hg8 hw8
  obtain ⟨w8, rfl⟩ : ∃ w8 : World, w8 = w8' := ⟨_, rfl⟩
  obtain ⟨hx, hhx⟩ : ∃ hx, hx = (Pe.heir? l ep d).getD 0 := ⟨_, rfl⟩
  have k0 : w8.cell? ⟨g, 0, none⟩ = some (.int .u8 (kd : Int)) := H8.out.2.cell 0
  have k1 : w8.cell? ⟨g, 1, none⟩ = some (.int .i64 ep) := H8.out.2.cell 1
  have k2 : w8.cell? ⟨g, 2, none⟩ = some (.int .i64 eq) := H8.out.2.cell 2
  have hcc := Heir_calls A n c l ep d w8 (H.out.1.below H8.out.1)
  obtain ⟨hv, hhv⟩ : ∃ x, x = (Pe.heir? l ep d).isSome := ⟨_, rfl⟩
  rw [← hhv] at hcc
  rw [← hhx] at hcc; clear hhx
  have HCC := Lib.hid hcc
  have Hhv := Lib.hid hhv
  clear hcc hhv
  go_wp2_with fail
  refine HCC.out.mono ?_
  rintro e w9 ⟨rfl, hb⟩
  have H9 := Lib.hid (And.intro (H8.out.1.trans (hb.mono H8.out.1.size)) (H8.out.2.below hb H8.out.2.lt))
  clear hb k0 k1 k2 HCC
  dsimp only
  obtain ⟨mx, hmx⟩ : ∃ mx, mx = (Pe.home? l ep d).getD 0 := ⟨_, rfl⟩
  have k0 : w9.cell? ⟨g, 0, none⟩ = some (.int .u8 (kd : Int)) := H9.out.2.cell 0
  have k1 : w9.cell? ⟨g, 1, none⟩ = some (.int .i64 ep) := H9.out.2.cell 1
  have k2 : w9.cell? ⟨g, 2, none⟩ = some (.int .i64 eq) := H9.out.2.cell 2
  have hcc := Home_calls A n c l ep d w9 (H.out.1.below H9.out.1)
  obtain ⟨mv, hmv⟩ : ∃ x, x = (Pe.home? l ep d).isSome := ⟨_, rfl⟩
  rw [← hmv] at hcc
  rw [← hmx] at hcc; clear hmx
  have HCC := Lib.hid hcc
  have Hmv := Lib.hid hmv
  clear hcc hmv
  go_wp2_with fail
  refine HCC.out.mono ?_
  rintro e w10 ⟨rfl, hb⟩
  have H10 := Lib.hid (And.intro (H9.out.1.trans (hb.mono H9.out.1.size)) (H9.out.2.below hb H9.out.2.lt))
  clear hb k0 k1 k2 HCC
  dsimp only
  have k0 : w10.cell? ⟨g, 0, none⟩ = some (.int .u8 (kd : Int)) := H10.out.2.cell 0
  have k1 : w10.cell? ⟨g, 1, none⟩ = some (.int .i64 ep) := H10.out.2.cell 1
  have k2 : w10.cell? ⟨g, 2, none⟩ = some (.int .i64 eq) := H10.out.2.cell 2
  obtain ⟨hok, hep, hkd⟩ := HOK.out
  have hk6 : kd ≤ 6 := by rw [hkd]; exact hok.k6
  have hO := fun (e : Pe.order? l (ep, eq) d = none) => show ov = false by rw [Hov.out, e]; rfl
  have hHe := fun (e : Pe.heir? l ep d = none) => show hv = false by rw [Hhv.out, e]; rfl
  have hHo := fun (e : Pe.home? l ep d = none) => show mv = false by rw [Hmv.out, e]; rfl
  have h1 : kd = 1 → lv = true ∧ dv = false ∧ fv = false ∧ ov = false := fun e => by
    have h := hok.k1 (by rw [← hkd]; exact e)
    rw [← hep] at h
    exact ⟨Hlv.out.trans h.1, Hdv.out.trans h.2.1, Hfv.out.trans h.2.2.1, hO h.2.2.2⟩
  have h2 : kd = 2 → fv = true ∧ dv = false := fun e => by
    have h := hok.k2 (by rw [← hkd]; exact e)
    rw [← hep] at h
    exact ⟨Hfv.out.trans h.1, Hdv.out.trans h.2⟩
  have h3 : kd = 3 → dv = true ∧ hv = false := fun e => by
    have h := hok.k3 (by rw [← hkd]; exact e)
    rw [← hep] at h
    exact ⟨Hdv.out.trans h.1, hHe h.2⟩
  have h4 : kd = 4 → lv = false ∧ fv = false ∧ ov = false ∧ dv = false := fun e => by
    have h := hok.k4 (by rw [← hkd]; exact e)
    rw [← hep] at h
    exact ⟨Hlv.out.trans h.1, Hfv.out.trans h.2.1, hO h.2.2.1, Hdv.out.trans h.2.2.2⟩
  have h5 : kd = 5 → dv = false ∧ mv = false ∧ eq = 0 := fun e => by
    have h := hok.k5 (by rw [← hkd]; exact e)
    rw [← hep] at h
    exact ⟨Hdv.out.trans h.1, hHo h.2.1, h.2.2⟩
  clear hok hep hkd hO hHe hHo HOK Hlv Hdv Hfv Hov Hhv Hmv H3
  have hkk : kd = 0 ∨ kd = 1 ∨ kd = 2 ∨ kd = 3 ∨ kd = 4 ∨ kd = 5 ∨ kd = 6 := by omega
  clear hk6
  rcases hkk with rfl | rfl | rfl | rfl | rfl | rfl | rfl
  · clear h1 h2 h3 h4 h5
    go_wp2_with fail
    refine (alive_calls w10 (H.out.2.below H10.out.1)).mono ?_
    rintro e wy ⟨rfl, hby⟩
    have HY := Lib.hid (H10.out.1.trans (hby.mono H10.out.1.size))
    clear hby
    dsimp only
    go_wp2
    go_ret
    exact ⟨rfl, HY.out⟩
  · obtain ⟨rfl, rfl, rfl, rfl⟩ := h1 rfl
    clear h1 h2 h3 h4 h5
    go_wp2_with fail
    refine (alive_calls w10 (H.out.2.below H10.out.1)).mono ?_
    rintro e wy ⟨rfl, hby⟩
    have HY := Lib.hid (H10.out.1.trans (hby.mono H10.out.1.size))
    clear hby
    dsimp only
    go_wp2
    go_ret
    exact ⟨rfl, HY.out⟩
  · obtain ⟨rfl, rfl⟩ := h2 rfl
    clear h1 h2 h3 h4 h5
    go_wp2_with fail
    refine (alive_calls w10 (H.out.2.below H10.out.1)).mono ?_
    rintro e wy ⟨rfl, hby⟩
    have HY := Lib.hid (H10.out.1.trans (hby.mono H10.out.1.size))
    clear hby
    dsimp only
    go_wp2
    go_ret
    exact ⟨rfl, HY.out⟩
  · obtain ⟨rfl, rfl⟩ := h3 rfl
    clear h1 h2 h3 h4 h5
    go_wp2_with fail
    refine (alive_calls w10 (H.out.2.below H10.out.1)).mono ?_
    rintro e wy ⟨rfl, hby⟩
    have HY := Lib.hid (H10.out.1.trans (hby.mono H10.out.1.size))
    clear hby
    dsimp only
    go_wp2
    go_ret
    exact ⟨rfl, HY.out⟩
  · obtain ⟨rfl, rfl, rfl, rfl⟩ := h4 rfl
    clear h1 h2 h3 h4 h5
    go_wp2_with fail
    refine (alive_calls w10 (H.out.2.below H10.out.1)).mono ?_
    rintro e wy ⟨rfl, hby⟩
    have HY := Lib.hid (H10.out.1.trans (hby.mono H10.out.1.size))
    clear hby
    dsimp only
    go_wp2
    go_ret
    exact ⟨rfl, HY.out⟩
  · obtain ⟨rfl, rfl, rfl⟩ := h5 rfl
    clear h1 h2 h3 h4 h5
    go_wp2_with fail
    refine (alive_calls w10 (H.out.2.below H10.out.1)).mono ?_
    rintro e wy ⟨rfl, hby⟩
    have HY := Lib.hid (H10.out.1.trans (hby.mono H10.out.1.size))
    clear hby
    dsimp only
    go_wp2
    go_ret
    exact ⟨rfl, HY.out⟩
  · clear h1 h2 h3 h4 h5
    go_wp2_with fail
    refine (alive_calls w10 (H.out.2.below H10.out.1)).mono ?_
    rintro e wy ⟨rfl, hby⟩
    have HY := Lib.hid (H10.out.1.trans (hby.mono H10.out.1.size))
    clear hby
    dsimp only
    go_wp2
    go_ret
    exact ⟨rfl, HY.out⟩

end Go.Proofs.YtfalajomfcfliaaGreatDoor
